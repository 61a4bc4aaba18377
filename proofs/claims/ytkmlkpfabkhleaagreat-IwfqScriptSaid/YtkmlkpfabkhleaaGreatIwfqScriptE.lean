/- Texts that the law rests on, put together by a program. -/
import Derived.Test.YtkmlkpfabkhleaaGreatIwfqScriptB
import Derived.Deep.RegionLaw
import Derived.Test.YtkmlkpfabkhleaaGreatIwfqScriptD
import Derived.Test.YtkmlkpfabkhleaaGreatIwfqScriptC
import Derived.Shelf.SlSortCmp.NoneTotal
import Derived.Test.YtkmlkpfabkhleaaGreatProg
/- The program's ledger of lags: Leave. -/
namespace Go.Proofs.YtkmlkpfabkhleaaGreat
open Go.RowKit
open SP
section
variable {W w w' : World} {b N : Nat} {L : List Tg} {R : List SP}

theorem setT_none {x : Tg} : ∀ {L : List Tg}, (∀ t ∈ L, t.f ≠ x.f) → setT x L = L
  | [], _ => rfl
  | a :: L, h => by
    show (if a.f = x.f then x else a) :: setT x L = _
    rw [if_neg (h a (by simp)), setT_none fun t ht => h t (by simp [ht])]
theorem addS_step : ∀ {L : List Tg} {Q : List Int} {i : Nat} {t : Tg} {q : Int}, (L.map (·.f)).Pairwise (· < ·) → L[i]? = some t → Q[i]? = some q →
    (addS L (Q.take i))[i]? = some t ∧ setT ⟨t.f, t.w, t.s + q⟩ (addS L (Q.take i)) = addS L (Q.take (i + 1))
  | [], _, i, t, q, _, h, _ => by simp at h
  | _ :: _, [], i, t, q, _, _, h => by simp at h
  | a :: L, p :: Q, 0, t, q, hp, h, h' => by
    rw [List.map_cons, List.pairwise_cons] at hp
    simp only [List.getElem?_cons_zero, Option.some.injEq] at h h'
    subst h; subst h'
    rw [List.take_zero, addS_nil]
    refine ⟨rfl, ?_⟩
    show (if a.f = a.f then (⟨a.f, a.w, a.s + p⟩ : Tg) else a) :: setT ⟨a.f, a.w, a.s + p⟩ L = ⟨a.f, a.w, a.s + p⟩ :: addS L []
    rw [if_pos rfl, addS_nil, setT_none]
    intro u hu
    have := hp.1 u.f (List.mem_map.2 ⟨u, hu, rfl⟩)
    simp only; omega
  | a :: L, p :: Q, i + 1, t, q, hp, h, h' => by
    rw [List.map_cons, List.pairwise_cons] at hp
    rw [List.getElem?_cons_succ] at h h'
    obtain ⟨h1, h2⟩ := addS_step (L := L) (Q := Q) hp.2 h h'
    rw [List.take_succ_cons, List.take_succ_cons, addS_cons, addS_cons]
    refine ⟨by rw [List.getElem?_cons_succ]; exact h1, ?_⟩
    have hlt := hp.1 t.f (List.mem_map.2 ⟨t, List.mem_of_getElem? h, rfl⟩)
    show (if a.f = t.f then _ else _) :: setT _ _ = _
    rw [if_neg (by omega), h2]
theorem LgOk.del (h : LgOk N L) {t : Tg} (ht : t ∈ L) : LgOk N (delT t.f L) :=
  ⟨h.ok.del _, by have h1 := (delT_sums h.ok.asc' ht).1; have h2 := h.sm; have h3 := ab_nonneg t.s; omega⟩

def LvRel (b ab h : Nat) (t : Tg) (D : List Tg) (Q : List Int) (ga pa : Option Addr) (gc pc : Nat) (R : List SP) (w : World) (v41 : Value) (wr : World) : Prop :=
  ∃ (i : Nat) (m : List (Int × Tg)), v41 = .int .i64 (i : Int) ∧ i ≤ D.length ∧ RepN m (addS D (Q.take i)) ∧
    Own wr (cel b 173 [.map (some ab)] :: mpI accV ab m :: slc 2 1 ga D.length gc (i64s Q) :: slc 162 2 pa D.length pc (flat part (ptsOf D)) :: cel h 169 [.int .i64 t.w, .int .i64 t.s] :: R) ∧ Calm w wr

set_option maxHeartbeats 3200000 in
set_option maxRecDepth 100000 in
theorem lagLeave_spec (f : Int) (hN : (N : Int) ≤ 1000000000000) (o : Own w (LagR b N L :: R)) :
    Calls Tryz.prog 102 #[.pointer (some ⟨b, 0, none⟩), .int .i64 f] w (Ret (.tuple #[.int .i64 (nLeave L f).1.1, .int .i64 (nLeave L f).1.2]) (LagR b N (nLeave L f).2 :: R) w) := by
  obtain ⟨ab, m, hm, hok, o1⟩ := LagR.iff.1 o
  have c1 := o1.cell 0
  have hbl := o1.celLt
  cases hf : fget L f with
  | none =>
    have e : nLeave L f = ((0, 6), L) := by unfold nLeave; rw [hf]
    rw [e]; clear e
    have hlk := lookN_none (o1.up 1) hm hf
    clear hf
    go_enter Tryz.func102, Tryz.ntmps102
    go_wp2
    go_ret2
    exact ⟨rfl, o.more _, ⟨rfl, rfl, rfl⟩⟩
  | some t =>
    have e : nLeave L f = ((t.s, 0), addS (delT f L) (lagSplit t.s (wts (delT f L)))) := by unfold nLeave; rw [hf]
    have hok' := nLeave_ok hok f
    rw [e] at hok' ⊢
    clear e
    obtain ⟨ht, rfl⟩ := fget_some hf
    have hlk := lookN_some (o1.up 1) hm hf
    have hbn : b ≠ w.heap.size := by omega
    have hokD := hok.del ht
    have hrepD := hm.del t.f
    have hts := hok.lag ht
    have o2 := o1.alloc (.cells #[.int .i64 t.w, .int .i64 t.s] 169)
    have hptD := ptsOf_ok hokD.ok
    have hpw := pws_pts (delT t.f L)
    have hlagD : ∀ u ∈ delT t.f L, -(8192 * (N : Int)) ≤ u.s ∧ u.s ≤ 8192 * (N : Int) := fun u hu => hokD.lag hu
    generalize delT t.f L = D at *
    have HLD := Lib.hid hlagD
    clear hlagD
    go_enter Tryz.func102, Tryz.ntmps102
    go_wp2_with (first | fail | (at_delete; refine wpList_delete_mpI rfl _ _ rfl Tryz.underlying171 Tryz.underlying3 (o2.up 2) t.f rfl rfl ?c2))
    case c2 =>
    intro w1 o3 k3
    have o4 : Own w1 (LagR b N D :: blk w.heap.size (.cells #[.int .i64 t.w, .int .i64 t.s] 169) :: R) := LagR.iff.2 ⟨ab, _, hrepD, hokD, o3.re [2, 0, 1]⟩
    go_wp2_with fail
    refine (lagParts_spec o4).mono ?_
    rintro e1 w2 ⟨pa, pc, rfl, o5, k5⟩
    have cA := (o5.up 2).cell (T := 169) (vs := [.int .i64 t.w, .int .i64 t.s]) 1
    have hsp := shSplit_spec (w := w2) (c := pc) t.s (by unfold Go.Proofs.YtkmlkpfabkhleaaGreat.ab; omega) (partsAt_slc pa D.length pc (ptsOf D) (ptsOf_len D).symm) hptD (ptsOf_len D).symm o5
    go_wp2_with fail
    refine hsp.mono ?_
    rintro e2 w3 ⟨ga, gc, rfl, o6, k6⟩
    rw [pws_pts, ptsOf_len] at o6
    rw [ptsOf_len]
    obtain ⟨er, her⟩ : ∃ er : Int, (if ptsOf D = [] then (5 : Int) else 0) = er := ⟨_, rfl⟩
    rw [her]
    clear her
    obtain ⟨ab3, m3, hm3, hok3, o7⟩ := LagR.iff.1 (o6.up 2)
    have hQl : (lagSplit t.s (wts D)).length = D.length := by rw [lagSplit_len]; unfold wts; rw [List.length_map]
    have hQa := lagSplit_abs t.s (wts_pos hok3.ok)
    have hts2 : Go.Proofs.YtkmlkpfabkhleaaGreat.ab t.s ≤ 8192 * (N : Int) := by unfold Go.Proofs.YtkmlkpfabkhleaaGreat.ab; omega
    generalize lagSplit t.s (wts D) = Q at *
    have hasc := hok3.ok.asc'
    have hD32 := hok3.ok.len
    have hAD := HLD.out
    have hT : LvRel b ab3 w.heap.size t D Q ga pa gc pc R w (.int .i64 0) w3 := ⟨0, m3, rfl, by omega, by rw [List.take_zero, addS_nil]; exact hm3, o7.re [0, 1, 2, 3, 4], ((⟨k3.os, k3.tape, k3.output⟩ : Calm w w1).trans k5).trans k6⟩
    have HQ := Lib.hid hQl
    have HQA := Lib.hid (And.intro hQa hts2)
    have HO' := Lib.hid hok'
    have HASC := Lib.hid hasc
    have HOKD := Lib.hid hokD
    have HN := Lib.hid hN
    have HLD2 := Lib.hid hAD
    clear hQl hQa hts2 hok' hasc hokD hN hAD o7 o6 o5 o4 o3 o2 o1 o hsp cA k6 k5 k3 hptD hpw hrepD hm hok hm3 hok3 ht hlk hts hbl hbn c1
    go_wp2
    go_loopw [41] (fun v wr => LvRel b ab3 w.heap.size t D Q ga pa gc pc R w v wr) (fun v _ => D.length - (ivOf v).toNat)
    case atStart => exact hT
    case round =>
      clear hT
      obtain ⟨i, m, rfl, hi, hm, oR, kR⟩ := hrel
      by_cases hlt : i < D.length
      · obtain ⟨u, hu⟩ : ∃ u, D[i]? = some u := ⟨_, List.getElem?_eq_getElem hlt⟩
        obtain ⟨q, hq⟩ : ∃ q, Q[i]? = some q := ⟨_, List.getElem?_eq_getElem (by rw [HQ.out]; exact hlt)⟩
        obtain ⟨hg, hset⟩ := addS_step (Q := Q) (q := q) HASC.out hu hq
        have hfg := fget_memN hm.ok (List.mem_of_getElem? hg)
        have hlk := lookN_one (oR.drew.up 1) hm hfg
        obtain ⟨g, rfl, hc, _, _⟩ := (oR.up 2).slc_cell (by omega)
        have d0 := hc i (.int .i64 q) (by unfold i64s; rw [List.getElem?_map, hq]; rfl)
        obtain ⟨gp, rfl, d1, d2⟩ := part_cells (oR.up 3) (i := i) (y := (u.f, u.w)) (by unfold ptsOf; rw [List.getElem?_map, hu]; rfl) (by omega)
        have c1 := oR.cell 0
        dsimp only at d1 d2
        have hu2 := HLD2.out u (List.mem_of_getElem? hu)
        have hq2 : Go.Proofs.YtkmlkpfabkhleaaGreat.ab q ≤ 8192 * (N : Int) := Int.le_trans (sumI_ab_mem (List.mem_of_getElem? hq)) (Int.le_trans HQA.out.1 HQA.out.2)
        have hur := HOKD.out.ok.rng u (List.mem_of_getElem? hu)
        have hw : IntKind.i64.wrap (u.s + q) = u.s + q := by have := HN.out; unfold Go.Proofs.YtkmlkpfabkhleaaGreat.ab at hq2; rw [IntKind.wrap_i64]; omega
        have hrep : RepN (mput m u.f ⟨u.f, u.w, u.s + q⟩) (addS D (Q.take (i + 1))) := by
          rw [← hset]
          exact hm.set (x := ⟨u.f, u.w, u.s + q⟩) (by show fget _ u.f ≠ none; rw [hfg]; simp) (by refine ⟨?_, ?_, ?_, ?_⟩ <;> (simp only; omega))
        have HR := Lib.hid hrep
        have oA := oR.alloc (.cells #[.int .i64 u.w, .int .i64 (u.s + q)] 169)
        clear hc hg hset hu hq hu2 hq2 hur hrep
        have lbl := oR.celLt
        have hbw : b ≠ wr.heap.size := by omega
        have hgp : gp < wr.heap.size := World.block_lt_of_cell? _ _ d1
        have hgw : gp ≠ wr.heap.size := by omega
        have hlk2 := lookN_one ((oR.alloc (.cells #[.int .i64 0, .int .i64 0] 169)).drew.up 2) hm hfg
        clear hfg hm
        go_wp2
        go_region_law (fail)
        all_goals go_wp2
        all_goals refine wp_region_tail 10 (by kernel_rfl) (by kernel_rfl) ?_
        all_goals simp only [List.take_succ_cons, List.take_zero, List.drop_succ_cons, List.drop_zero]
        all_goals repeat still_step
        all_goals refine wpStill_nil ?_
        all_goals go_wp2_with (at_mapUpdate; refine wpList_mapUpdate_mpI (f := accV) rfl _ _ _ rfl Tryz.underlying171 Tryz.underlying3 ((oA.up 2).drewN 2) u.f ⟨u.f, u.w, u.s + q⟩ rfl rfl rfl ?_)
        all_goals
          intro w4 o4 k4
          go_wp2
          go_roundw
          case rel => exact ⟨i + 1, _, by go_num, by omega, HR.out, o4.re [1, 2, 0, 3, 4, 5] 1, kR.trans ⟨k4.os, k4.tape, k4.output⟩⟩
          case measure => simp [ivOf]; omega
      · have hin : i = D.length := by omega
        subst hin
        rw [List.take_of_length_le (by rw [HQ.out]; omega)] at hm
        have c0 := (oR.up 4).cell 0
        have c1 := (oR.up 4).cell 1
        go_wp2
        go_ret2
        exact ⟨rfl, LagR.iff.2 ⟨_, _, hm, HO'.out, oR.re [2, 3, 4, 0, 1] 3⟩, kR⟩
end
end Go.Proofs.YtkmlkpfabkhleaaGreat

/- Cifq, plain: what the slots keep. -/
namespace Go.Proofs.YtkmlkpfabkhleaaGreat
open Go.RowKit
open SP

structure OInv (i : Nat) (o : Ord) : Prop where
  pts : PtOk o.el
  uniq : Uniq o.tg
  val : ∀ f, 0 ≤ tget o.tg f ∧ tget o.tg f ≤ i * 2952069120
  tm : 0 ≤ o.tm ∧ o.tm ≤ i * 2952069120
  low : ∀ p ∈ o.el, o.tm ≤ tget o.tg p.1
  up : ∀ f, tget o.tg f ≤ o.tm + 2952069120

theorem PtOk.sub {l m : List (Int × Int)} (h : PtOk l) (hm : m.Sublist l) : PtOk m :=
  ⟨h.asc.sublist hm, fun p hp => h.rng p (hm.subset hp), Nat.le_trans hm.length_le h.len⟩
theorem PtOk.nil : PtOk [] := ⟨.nil, by simp, by simp⟩
theorem PtOk.uniq {l : List (Int × Int)} (h : PtOk l) : Uniq l := by
  unfold Uniq
  show (l.map (·.1)).Pairwise (· ≠ ·)
  rw [List.pairwise_map]
  exact h.asc.imp fun h => by omega
theorem PtOk.key {l : List (Int × Int)} (h : PtOk l) : KeyOk l := ⟨h.uniq, fun x hx => by have := h.rng x hx; omega⟩
theorem PtOk.good {l : List (Int × Int)} (h : PtOk l) : eligBad (-1) l = false :=
  eligBad_ok l (-1) (by rw [List.pairwise_map]; exact h.asc) fun p hp => by have := h.rng p hp; omega
theorem OInv.start : OInv 0 ⟨[], [], 0⟩ := ⟨PtOk.nil, by simp [Uniq], fun f => by simp [tget, mget], by simp, by simp, fun f => by simp [tget, mget]⟩
theorem OInv.le {i j : Nat} {o : Ord} (h : OInv i o) (hj : i ≤ j) : OInv j o := by
  have hij : (i : Int) ≤ j := by omega
  exact ⟨h.pts, h.uniq, fun f => by have := h.val f; omega, by have := h.tm; omega, h.low, h.up⟩
/-- Tags that are near a small time. -/
theorem OInv.down {i : Nat} {o : Ord} (h : OInv i o) (ht : o.tm ≤ 2952069120) : OInv 2 o := by
  exact ⟨h.pts, h.uniq, fun f => by have := h.val f; have := h.up f; omega, by have := h.tm; omega, h.low, h.up⟩
theorem OInv.vals {i : Nat} {o : Ord} (h : OInv i o) : ∀ x ∈ o.tg, 0 ≤ x.2 ∧ x.2 ≤ i * 2952069120 := fun x hx => by
  rw [← tget_val h.uniq hx]; exact h.val x.1
theorem OInv.ok {i : Nat} {o : Ord} (h : OInv i o) (hi : i ≤ 370) : OrdOk o := by
  have hij : (i : Int) ≤ 370 := by omega
  exact ⟨h.pts.key, by have := h.pts.len; omega, h.uniq, fun x hx => by have := h.vals x hx; omega, by have := h.tm; omega⟩
theorem OInv.elig {i : Nat} {o : Ord} (h : OInv i o) {l : List (Int × Int)} (hl : PtOk l) : OInv i (eligO o l) := by
  unfold eligO
  have ht := h.tm
  refine ⟨by rw [eligEl_self hl.uniq]; exact hl, eligTg_uniq o.el o.tm l o.tg h.uniq, fun f => ?_, h.tm, fun p hp => ?_, fun f => ?_⟩
  · dsimp only
    rw [eligTg_get]
    have := h.val f
    split <;> omega
  · dsimp only at hp ⊢
    rw [eligEl_self hl.uniq] at hp
    rw [eligTg_get]
    split
    · omega
    · rename_i hn
      cases he : mget o.el p.1 with
      | none => exact absurd ⟨List.mem_map.2 ⟨p, hp, rfl⟩, he⟩ hn
      | some v => exact h.low (p.1, v) (mem_of_mget he)
  · dsimp only
    rw [eligTg_get]
    have := h.up f
    split <;> omega
theorem OInv.elig_el {i : Nat} {o : Ord} (_ : OInv i o) {l : List (Int × Int)} (hl : PtOk l) : (eligO o l).el = l := by
  unfold eligO; exact eligEl_self hl.uniq
theorem OInv.least {i : Nat} {o : Ord} (h : OInv i o) (hl : 0 ≤ leastF o.el o.tg) : leastF o.el o.tg ∈ o.el.map (·.1) := by
  rcases leastF_facts o.el o.tg (fun p hp => (h.pts.rng p hp).1) with ⟨_, h2⟩ | ⟨h1, _⟩
  · omega
  · exact h1
theorem OInv.least_nil {i : Nat} {o : Ord} (h : OInv i o) : leastF o.el o.tg < 0 ↔ o.el = [] := by
  rcases leastF_facts o.el o.tg (fun p hp => (h.pts.rng p hp).1) with ⟨h1, h2⟩ | ⟨h1, _⟩
  · exact ⟨fun _ => h1, fun _ => by omega⟩
  · obtain ⟨p, hp, he⟩ := List.mem_map.1 h1
    have := h.pts.rng p hp
    exact ⟨fun _ => by omega, fun e => by rw [e] at hp; cases hp⟩
/-- The least flow is served. -/
theorem OInv.serv {i : Nat} {o : Ord} (h : OInv i o) (hi : i ≤ 370) (reb : Int) {f len : Int} (hf : f = leastF o.el o.tg) (hf0 : 0 ≤ f) (h1 : 1 ≤ len) (h2 : len ≤ 4096) :
    ∃ wt, mget o.el f = some wt ∧ 1 ≤ wt ∧ wt ≤ 16 ∧ (servO reb o f len).1 = 0 ∧ OInv (i + 1) (servO reb o f len).2 ∧ (servO reb o f len).2.el = o.el ∧
      (∀ p ∈ o.el, tget o.tg f ≤ tget o.tg p.1) ∧ o.tm ≤ tget o.tg f ∧
      ∃ by_ : Int, 0 ≤ by_ ∧ by_ ≤ tget o.tg f ∧ (by_ = 0 ∧ tget o.tg f < reb ∨ by_ = tget o.tg f) ∧ (servO reb o f len).2.tm = tget o.tg f - by_ ∧
        ∀ g, tget (servO reb o f len).2.tg g = max ((if g = f then tget o.tg f + cst len wt else tget o.tg g) - by_) 0 := by
  have hij : (i : Int) ≤ 370 := by omega
  have hp0 : ∀ p ∈ o.el, 0 ≤ p.1 := fun p hp => (h.pts.rng p hp).1
  rcases leastF_facts o.el o.tg hp0 with ⟨_, he⟩ | ⟨hmem, hmin⟩
  · omega
  rw [← hf] at hmem hmin
  obtain ⟨wt, hwt⟩ := mget_isSome_of hmem
  have hin := mem_of_mget hwt
  have hw := h.pts.rng _ hin
  have hlow := h.low _ hin
  dsimp only at hw hlow
  have hg := h.val f
  have ht := h.tm
  have hel : tget o.el f = wt := by unfold tget; rw [hwt]; rfl
  obtain ⟨c1, c2⟩ := cst_range hw.2.2.1 hw.2.2.2 h1 h2
  have hfin : servFin o.el o.tg f len = (tget o.tg f + cst len wt, 0) := by
    unfold servFin finF
    rw [hel, if_neg (by unfold badLW; omega), if_neg (by omega)]
  have hE : servE o.el o.tg f len = 0 := by unfold servE; rw [hwt, hfin]; rfl
  have hTm : servTm o.tg o.tm f = tget o.tg f := by unfold servTm; omega
  have hTg : ∀ g, tget (servTg o.el o.tg f len) g = if g = f then tget o.tg f + cst len wt else tget o.tg g := fun g => by unfold servTg; rw [tget_mput, hfin]
  have hlow' : ∀ p ∈ o.el, tget o.tg f ≤ tget (servTg o.el o.tg f len) p.1 := fun p hp' => by
    rw [hTg]
    split
    · omega
    · exact hmin p hp'
  have hBy : servBy o.el o.tg o.tm f len = tget o.tg f := by
    unfold servBy
    rw [hTm]
    rcases leastF_facts o.el (servTg o.el o.tg f len) hp0 with ⟨he, _⟩ | ⟨hm2, _⟩
    · rw [he] at hin; cases hin
    · obtain ⟨q, hq, hqe⟩ := List.mem_map.1 hm2
      have := hlow' q hq
      rw [hqe] at this
      omega
  have hu1 : Uniq (servTg o.el o.tg f len) := h.uniq.mput _ _
  refine ⟨wt, hwt, hw.2.2.1, hw.2.2.2, ?_⟩
  unfold servO
  rw [if_neg (by rw [hE]; simp), hBy, hTm]
  by_cases hb : tget o.tg f < reb
  · rw [if_pos hb]
    refine ⟨rfl, ⟨h.pts, hu1, fun g => ?_, by show 0 ≤ tget o.tg f ∧ tget o.tg f ≤ ((i + 1 : Nat) : Int) * 2952069120; omega, hlow', fun g => ?_⟩, rfl, hmin, hlow, 0, by omega, hg.1, .inl ⟨rfl, hb⟩, by show tget o.tg f = _; omega, fun g => ?_⟩
    · have := h.val g
      dsimp only; rw [hTg]; push_cast
      split <;> omega
    · have := h.up g
      dsimp only; rw [hTg]
      split <;> omega
    · have := h.val g
      dsimp only; rw [hTg]
      split <;> omega
  · rw [if_neg hb]
    refine ⟨rfl, ⟨h.pts, hu1.lower _, fun g => ?_, by show 0 ≤ tget o.tg f - tget o.tg f ∧ tget o.tg f - tget o.tg f ≤ ((i + 1 : Nat) : Int) * 2952069120; omega, fun p hp => ?_, fun g => ?_⟩, rfl, hmin, hlow, tget o.tg f, hg.1, by omega, .inr rfl, rfl, fun g => ?_⟩
    · have := h.val g
      dsimp only; rw [tget_lower _ hg.1, hTg]; push_cast
      split <;> omega
    · have := hlow' p hp
      dsimp only; rw [tget_lower _ hg.1]; omega
    · have := h.up g
      dsimp only; rw [tget_lower _ hg.1, hTg]
      split <;> omega
    · dsimp only; rw [tget_lower _ hg.1, hTg]
theorem tget_mdel {m : List (Int × Int)} (hu : Uniq m) (f g : Int) : tget (mdel m f) g = if g = f then 0 else tget m g := by
  unfold tget
  rw [mdel_filtK f hu]
  induction m with
  | nil => simp [mget]
  | cons x m ih =>
    unfold Uniq at hu
    rw [List.map_cons, List.nodup_cons] at hu
    have ih := ih hu.2
    obtain ⟨k, v⟩ := x
    by_cases hk : k = f
    · subst hk
      rw [List.filter_cons_of_neg (by simp), ih]
      by_cases hg : g = k
      · rw [if_pos hg, if_pos hg]
      · rw [if_neg hg, if_neg hg]
        show _ = (if g = k then some v else mget m g).getD 0
        rw [if_neg hg]
    · rw [List.filter_cons_of_pos (by simpa using hk)]
      show (if g = k then some v else mget _ g).getD 0 = if g = f then 0 else (if g = k then some v else mget m g).getD 0
      by_cases hg : g = k
      · rw [if_pos hg, if_pos hg, if_neg (by omega)]
      · rw [if_neg hg, if_neg hg, ih]
theorem OInv.forget {i : Nat} {o : Ord} (h : OInv i o) (f : Int) : OInv i ⟨mdel o.el f, mdel o.tg f, o.tm⟩ := by
  have ht := h.tm
  have hm : mdel o.el f = o.el.filter fun x => !(x.1 == f) := mdel_filtK f h.pts.uniq
  refine ⟨?_, h.uniq.mdel f, fun g => ?_, h.tm, fun p hp => ?_, fun g => ?_⟩
  · dsimp only; rw [hm]; exact h.pts.sub List.filter_sublist
  · have := h.val g
    dsimp only; rw [tget_mdel h.uniq]
    split <;> omega
  · dsimp only at hp ⊢
    rw [hm] at hp
    obtain ⟨h1, h2⟩ := List.mem_filter.1 hp
    rw [tget_mdel h.uniq, if_neg (by simpa using h2)]
    exact h.low p h1
  · have := h.up g
    dsimp only; rw [tget_mdel h.uniq]
    split <;> omega

/-! ### Picking heads -/
theorem snd_zip_sub {α β : Type} : ∀ (l : List α) (m : List β), ((l.zip m).map (·.2)).Sublist m
  | [], m => by simp
  | _ :: _, [] => by simp
  | _ :: l, b :: m => by simpa using snd_zip_sub l m
theorem pickH_sub (D : List Tg) (p : Head → Bool) (H : List Head) : (pickH D p H).Sublist (ptsOf D) := by
  unfold pickH
  exact (List.filter_sublist.map _).trans (snd_zip_sub _ _)
theorem ptsOf_f (D : List Tg) : (ptsOf D).map (·.1) = D.map (·.f) := by unfold ptsOf; rw [List.map_map]; rfl

/-- What the scheduler keeps: tags up to i packets, m slots, ledger bound N. -/
structure CqInv (i m N : Nat) (s : Cq) : Prop where
  t : TInv i s.R
  aw : 0 ≤ s.R.aw ∧ s.R.aw + s.R.tm ≤ m * 2952069120
  pts : ptsOf s.D = ptsOf s.R.L
  lg : LgOk N s.D
  sum : sumS s.D = 0
  c : OInv i s.C
  x : OInv i s.X
  nu : Uniq s.n
  nv : ∀ y ∈ s.n, 0 ≤ y.2.1 ∧ y.2.1 ≤ m * 4096 ∧ 0 ≤ y.2.2 ∧ y.2.2 ≤ m * 4096

section
variable {i m N : Nat} {s : Cq}
theorem CqInv.fl (h : CqInv i m N s) : s.D.map (·.f) = s.R.L.map (·.f) := by
  rw [← ptsOf_f, ← ptsOf_f, h.pts]
theorem CqInv.len (h : CqInv i m N s) : s.D.length = s.R.L.length := by
  have := congrArg List.length h.fl
  simpa using this
theorem CqInv.dpt (h : CqInv i m N s) : PtOk (ptsOf s.D) := ptsOf_ok h.lg.ok
theorem CqInv.cnt (h : CqInv i m N s) (f : Int) : 0 ≤ (cntO s.n f).1 ∧ (cntO s.n f).1 ≤ m * 4096 ∧ 0 ≤ (cntO s.n f).2 ∧ (cntO s.n f).2 ≤ m * 4096 := by
  unfold cntO
  cases hm : mget s.n f with
  | none => show 0 ≤ (0 : Int) ∧ (0 : Int) ≤ _ ∧ 0 ≤ (0 : Int) ∧ (0 : Int) ≤ _; omega
  | some v => exact h.nv _ (mem_of_mget hm)
theorem fget_of_f {L : List Tg} {k : Int} (h : k ∈ L.map (·.f)) : ∃ t, fget L k = some t := by
  cases hf : fget L k with
  | some t => exact ⟨t, rfl⟩
  | none =>
    obtain ⟨t, ht, he⟩ := List.mem_map.1 h
    exact absurd he (fget_none.1 hf t ht)
def cq0 : Cq := ⟨⟨[], fun _ => 0, 0, 0⟩, [], ⟨[], [], 0⟩, ⟨[], [], 0⟩, []⟩
theorem CqInv.start : CqInv 0 0 0 cq0 :=
  ⟨TInv.start, by simp [cq0], rfl, LgOk.start, rfl, OInv.start, OInv.start, by simp [Uniq, cq0], by simp [cq0]⟩
/-- More slots, greater bounds. -/
theorem CqInv.le {j k M : Nat} (h : CqInv i m N s) (hj : i ≤ j) (hk : m ≤ k) (hM : N ≤ M) : CqInv j k M s := by
  have hij : (i : Int) ≤ j := by omega
  have hmk : (m : Int) ≤ k := by omega
  have h2 := h.aw
  refine ⟨?_, by omega, h.pts, h.lg.le hM, h.sum, h.c.le hj, h.x.le hj, h.nu, fun y hy => by have := h.nv y hy; omega⟩
  have h3 := h.t.tm
  exact ⟨h.t.ok, by omega, h.t.act, h.t.old⟩
/-- The times are small. -/
structure CqLow (s : Cq) : Prop where
  r : s.R.tm ≤ 2952069120
  c : s.C.tm ≤ 2952069120
  x : s.X.tm ≤ 2952069120
theorem CqInv.down (h : CqInv i m N s) (hl : CqLow s) : CqInv 2 m N s :=
  ⟨⟨h.t.ok, by have := hl.r; push_cast; omega, h.t.act, h.t.old⟩, h.aw, h.pts, h.lg, h.sum, h.c.down hl.c, h.x.down hl.x, h.nu, h.nv⟩
end

/-! ### A slot -/
/-- The heads fit: what that says. -/
theorem fits_facts {L : List Tg} {H : List Head} (h : fitsH L H = true) : H.map (·.f) = L.map (·.f) ∧ ∀ x ∈ H, 1 ≤ x.len ∧ x.len ≤ 4096 := by
  unfold fitsH at h
  rw [Bool.and_eq_true, decide_eq_true_eq, List.all_eq_true] at h
  exact ⟨h.1, fun x hx => by simpa using h.2 x hx⟩
theorem headOf_mem {H : List Head} {f : Int} (h : f ∈ H.map (·.f)) : headOf H f ∈ H ∧ (headOf H f).f = f := by
  unfold headOf
  cases hf : H.find? (fun h => h.f == f) with
  | none =>
    obtain ⟨x, hx, he⟩ := List.mem_map.1 h
    have := List.find?_eq_none.1 hf x hx
    simp [he] at this
  | some x => exact ⟨List.mem_of_find?_eq_some hf, by simpa using List.find?_some hf⟩
theorem selT_mem {L : List Tg} (h : L ≠ []) : selT L = ((lst L).f, 0) ∧ (lst L).f ∈ L.map (·.f) := by
  unfold selT
  rw [if_neg h]
  exact ⟨rfl, List.mem_map.2 ⟨_, lst_mem h, rfl⟩⟩
/-- Every choice but the idle one charges the selected flow and serves an active one; the ways by the orders serve one that is eligible there. -/
theorem choose_facts {i m N : Nat} {s : Cq} (h : CqInv i m N s) (hne : s.R.L ≠ []) (num den : Int) {H : List Head} (_ : H.map (·.f) = s.R.L.map (·.f)) {C X : Ord} (hC : OInv i C) (hX : OInv i X)
    (hCe : C.el = lagH s.D H) (hXe : X.el = allH s.D H) :
    chooseC num den { s with C := C, X := X } H (!(allH s.D H).isEmpty) = chIdle ∨
    ∃ j why, chooseC num den { s with C := C, X := X } H (!(allH s.D H).isEmpty) = ⟨(lst s.R.L).f, j, why⟩ ∧ j ∈ s.D.map (·.f) ∧ 0 ≤ j ∧
      (why = 1 ∧ j = (lst s.R.L).f ∨ (why = 2 ∨ why = 3) ∧ j = leastF C.el C.tg ∨ why = 4 ∧ j = leastF X.el X.tg) ∧ 0 ≤ (lst s.R.L).f := by
  obtain ⟨hs, hk⟩ := selT_mem hne
  have hk0 : 0 ≤ (lst s.R.L).f := (h.t.ok.ok.rng _ (lst_mem hne)).1
  have hkD : (lst s.R.L).f ∈ s.D.map (·.f) := by rw [h.fl]; exact hk
  have hsub : ∀ (p : Head → Bool) (j : Int), j ∈ (pickH s.D p H).map (·.1) → j ∈ s.D.map (·.f) ∧ 0 ≤ j := fun p j hj => by
    obtain ⟨y, hy, rfl⟩ := List.mem_map.1 hj
    have hy' := (pickH_sub s.D p H).subset hy
    have := h.dpt.rng y hy'
    exact ⟨by rw [← ptsOf_f]; exact List.mem_map.2 ⟨y, hy', rfl⟩, this.1⟩
  unfold chooseC
  dsimp only
  rw [hs]
  dsimp only
  split
  · exact .inr ⟨_, _, rfl, hkD, hk0, .inl ⟨rfl, rfl⟩, hk0⟩
  · split
    · rename_i hl
      have hm := hC.least hl
      have hm' := hm
      rw [hCe] at hm'
      have := hsub _ _ hm'
      rw [← hCe] at this
      refine .inr ⟨_, _, rfl, this.1, hl, .inr (.inl ⟨?_, rfl⟩), hk0⟩
      split
      · exact .inl rfl
      · exact .inr rfl
    · split
      · exact .inr ⟨_, _, rfl, hkD, hk0, .inl ⟨rfl, rfl⟩, hk0⟩
      · split
        · rename_i hso
          have hl : 0 ≤ leastF X.el X.tg := by
            have : ¬ (leastF X.el X.tg < 0) := fun hlt => by
              have := hX.least_nil.1 hlt
              rw [hXe] at this
              rw [this] at hso
              simp at hso
            omega
          rw [if_pos hl]
          have hm := hX.least hl
          have hm' := hm
          rw [hXe] at hm'
          have := hsub _ _ hm'
          rw [← hXe] at this
          exact .inr ⟨_, _, rfl, this.1, hl, .inr (.inr ⟨rfl, rfl⟩), hk0⟩
        · exact .inl rfl
theorem nMove_fw {L : List Tg} (h : NOk L) (c s n : Int) : ptsOf (nMove L c s n).2 = ptsOf L := by
  have hs : ∀ {M : List Tg} {x a : Tg}, NOk M → fget M x.f = some a → x.w = a.w → ptsOf (setT x M) = ptsOf M := fun {M x a} hM hf hw => by
    unfold ptsOf setT
    rw [List.map_map]
    refine List.map_congr_left fun t ht => ?_
    show ((if t.f = x.f then x else t).f, (if t.f = x.f then x else t).w) = (t.f, t.w)
    split
    · rename_i e
      have := fget_memN hM ht
      rw [e, hf] at this
      cases this
      rw [hw, e]
    · rfl
  unfold nMove
  cases hc : fget L c with
  | none => rfl
  | some a =>
    cases hd : fget L s with
    | none => rfl
    | some d =>
      dsimp only
      obtain ⟨ma, rfl⟩ := fget_some hc
      obtain ⟨md, rfl⟩ := fget_some hd
      split
      · rfl
      · split
        · rfl
        · split
          · rfl
          · rename_i hne _
            dsimp only
            have hr := h.rng a ma
            have h1 : NOk (setT ⟨a.f, a.w, a.s + n⟩ L) := h.set (x := ⟨a.f, a.w, a.s + n⟩) ⟨hr.1, hr.2.1, hr.2.2.1, hr.2.2.2⟩
            have h2 : fget (setT ⟨a.f, a.w, a.s + n⟩ L) d.f = some d := by
              rw [← fget_memN h1 (mem_setT_of md (x := ⟨a.f, a.w, a.s + n⟩) (Ne.symm hne))]
            rw [hs (x := ⟨d.f, d.w, d.s - n⟩) h1 h2 rfl, hs (x := ⟨a.f, a.w, a.s + n⟩) h hc rfl]
theorem nMove_zero {N : Nat} {L : List Tg} (h : LgOk N L) (hN : N ≤ 1000000) {c s n : Int} (hc : c ∈ L.map (·.f)) (hs : s ∈ L.map (·.f)) (h1 : 1 ≤ n) (h2 : n ≤ 4096) : (nMove L c s n).1 = 0 := by
  obtain ⟨a, ha⟩ := fget_of_f hc
  obtain ⟨d, hd⟩ := fget_of_f hs
  have b1 := h.lag (fget_some ha).1
  have b2 := h.lag (fget_some hd).1
  have hn : (N : Int) ≤ 1000000 := by omega
  rw [nMove_some ha hd, if_neg (by omega)]
  split
  · rfl
  · rw [if_neg (by omega)]

def nextC (num den reb : Int) (s : Cq) (C X : Ord) (c : Chc) (len : Int) : Cq :=
  ⟨(chargeR reb s.R c.ch len).2, (nMove s.D c.ch c.sv len).2, (servC reb C X c len).2.1, (servC reb C X c len).2.2, resetC (nMove s.D c.ch c.sv len).2 (if countC num den s c = true then bumpC s.n c len else s.n)⟩
theorem Uniq.filt {α : Type} {m : List (Int × α)} (h : Uniq m) (p : Int × α → Bool) : Uniq (m.filter p) := by
  unfold Uniq at *
  exact h.sublist (List.filter_sublist.map _)

/-- What a slot with heads that fit does. -/
theorem CqInv.step {i m N : Nat} {s : Cq} (h : CqInv i m N s) (hi : i ≤ 299) (hN : N ≤ 1000000) (num den reb : Int) {H : List Head} (hf : fitsH s.R.L H = true) (hne : H ≠ []) {C X : Ord} {c : Chc}
    (hC : eligO s.C (lagH s.D H) = C) (hX : eligO s.X (allH s.D H) = X) (hc : chooseC num den { s with C := C, X := X } H (!(allH s.D H).isEmpty) = c) :
    OInv i C ∧ OInv i X ∧ C.el = lagH s.D H ∧ X.el = allH s.D H ∧
    (c = chIdle ∧ stepC num den reb s H = (chIdle, 0, { s with C := C, X := X }) ∧ CqInv i m N { s with C := C, X := X } ∨
      ∃ j why len, c = ⟨(lst s.R.L).f, j, why⟩ ∧ 0 ≤ j ∧ (headOf H j).len = len ∧ (∃ x ∈ H, x.f = j) ∧ 1 ≤ len ∧ len ≤ 4096 ∧ (why = 1 ∧ j = (lst s.R.L).f ∨ (why = 2 ∨ why = 3) ∧ j = leastF C.el C.tg ∨ why = 4 ∧ j = leastF X.el X.tg) ∧ stepC num den reb s H = (c, 0, nextC num den reb s C X c len) ∧
        (chargeR reb s.R (lst s.R.L).f len).1 = 0 ∧ (servC reb C X c len).1 = 0 ∧ (nMove s.D (lst s.R.L).f j len).1 = 0 ∧ CqInv (i + 1) (m + 1) (N + 1) (nextC num den reb s C X c len) ∧ (reb ≤ 2952069120 → CqLow s → CqLow (nextC num den reb s C X c len))) := by
  obtain ⟨f1, f2⟩ := fits_facts hf
  have hL : s.R.L ≠ [] := fun e => by rw [e] at f1; simp at f1; exact hne f1
  have hl : ∀ p, PtOk (pickH s.D p H) := fun p => h.dpt.sub (pickH_sub _ _ _)
  have oC : OInv i C := hC ▸ h.c.elig (hl _)
  have oX : OInv i X := hX ▸ h.x.elig (hl _)
  have eC : C.el = lagH s.D H := hC ▸ h.c.elig_el (hl _)
  have eX : X.el = allH s.D H := hX ▸ h.x.elig_el (hl _)
  refine ⟨oC, oX, eC, eX, ?_⟩
  have hch := choose_facts h hL num den f1 oC oX eC eX
  rw [hc] at hch
  have hst : stepC num den reb s H = if c = chIdle then (c, 0, { s with C := C, X := X }) else
      if (chargeR reb s.R c.ch (headOf H c.sv).len).1 ≠ 0 then (ch0, (chargeR reb s.R c.ch (headOf H c.sv).len).1, s) else
      if (servC reb C X c (headOf H c.sv).len).1 ≠ 0 then (ch0, (servC reb C X c (headOf H c.sv).len).1, s) else
      if (nMove s.D c.ch c.sv (headOf H c.sv).len).1 ≠ 0 then (ch0, (nMove s.D c.ch c.sv (headOf H c.sv).len).1, s) else (c, 0, nextC num den reb s C X c (headOf H c.sv).len) := by
    unfold stepC
    rw [if_neg (by rw [hf]; simp), if_neg hne]
    dsimp only
    rw [hC, hX, hc]
    rfl
  rcases hch with he | ⟨j, why, he, hj, hj0, hw, hk0⟩
  · left
    rw [he, if_pos rfl] at hst
    exact ⟨he, hst, ⟨h.t, h.aw, h.pts, h.lg, h.sum, oC, oX, h.nu, h.nv⟩⟩
  · right
    have hjH : j ∈ H.map (·.f) := by rw [f1, ← h.fl]; exact hj
    obtain ⟨m1, m2⟩ := headOf_mem hjH
    have hlen := f2 _ m1
    refine ⟨j, why, (headOf H j).len, he, hj0, rfl, ⟨_, m1, m2⟩, hlen.1, hlen.2, hw, ?_⟩
    obtain ⟨len, hle⟩ : ∃ len, (headOf H j).len = len := ⟨_, rfl⟩
    rw [hle] at hlen ⊢
    have hkD : (lst s.R.L).f ∈ s.D.map (·.f) := by rw [h.fl]; exact List.mem_map.2 ⟨_, lst_mem hL, rfl⟩
    obtain ⟨q1, q2⟩ := h.t.charge (by omega) hL hlen.1 hlen.2 reb
    have q0 : (chargeR reb s.R (lst s.R.L).f len).1 = 0 := by rw [q1]
    have qn := nMove_zero h.lg hN hkD hj hlen.1 hlen.2
    have qs : (servC reb C X c len).1 = 0 ∧ OInv (i + 1) (servC reb C X c len).2.1 ∧ OInv (i + 1) (servC reb C X c len).2.2 ∧
        (reb ≤ 2952069120 → C.tm ≤ 2952069120 → X.tm ≤ 2952069120 → (servC reb C X c len).2.1.tm ≤ 2952069120 ∧ (servC reb C X c len).2.2.tm ≤ 2952069120) := by
      rw [he]
      unfold servC
      dsimp only
      rcases hw with ⟨hw, _⟩ | ⟨hw, hm⟩ | ⟨hw, hm⟩
      · rw [if_neg (by omega), if_neg (by omega)]
        exact ⟨rfl, oC.le (Nat.le_succ i), oX.le (Nat.le_succ i), fun _ h1 h2 => ⟨h1, h2⟩⟩
      · rw [if_pos hw]
        obtain ⟨wt, _, _, _, e0, e1, _, _, _, by_, b0, b1, b2, e2, _⟩ := oC.serv (by omega) reb hm hj0 hlen.1 hlen.2
        exact ⟨e0, e1, oX.le (Nat.le_succ i), fun h1 h2 h3 => ⟨by rw [e2]; omega, h3⟩⟩
      · rw [if_neg (by omega), if_pos hw]
        obtain ⟨wt, _, _, _, e0, e1, _, _, _, by_, b0, b1, b2, e2, _⟩ := oX.serv (by omega) reb hm hj0 hlen.1 hlen.2
        exact ⟨e0, oC.le (Nat.le_succ i), e1, fun h1 h2 h3 => ⟨h2, by rw [e2]; omega⟩⟩
    have hcne : c ≠ chIdle := by
      rw [he]
      intro e
      have := congrArg Chc.sv e
      change j = -1 at this
      omega
    have hsv : c.sv = j := by rw [he]
    have hcc : c.ch = (lst s.R.L).f := by rw [he]
    refine ⟨?_, q0, qs.1, qn, ?_, ?_⟩
    · have hlen' : (headOf H c.sv).len = len := by rw [hsv]; exact hle
      rw [hst, if_neg hcne, hlen', hcc, hsv, if_neg (by rw [q0]; simp), if_neg (by rw [qs.1]; simp), if_neg (by rw [qn]; simp)]
    · unfold nextC
      rw [hcc, hsv]
      have hnv : ∀ y ∈ s.n, 0 ≤ y.2.1 ∧ y.2.1 ≤ ((m + 1 : Nat) : Int) * 4096 ∧ 0 ≤ y.2.2 ∧ y.2.2 ≤ ((m + 1 : Nat) : Int) * 4096 := fun y hy => by
        have := h.nv y hy; push_cast; omega
      refine ⟨by rw [q1]; exact q2, ?_, ?_, (nMove_ok h.lg _ _ _).1, (nMove_ok h.lg _ _ _).2.trans h.sum, qs.2.1, qs.2.2.1, ?_, ?_⟩
      · rw [q1]
        obtain ⟨_, hT, hmx⟩ := h.t.ch (by omega) hL hlen.1 hlen.2
        have haw := h.aw
        have hr := h.t.ok.ok.rng _ (lst_mem hL)
        have hact := h.t.act _ (lst_mem hL)
        have hbr := byS_rng hT.ok (setT_ne hL)
        unfold rebS
        split
        · show 0 ≤ s.R.aw ∧ s.R.aw + max s.R.tm (lst s.R.L).s ≤ _
          push_cast; omega
        · show 0 ≤ s.R.aw + byS _ ∧ s.R.aw + byS _ + (max s.R.tm (lst s.R.L).s - byS _) ≤ _
          push_cast; omega
      · dsimp only
        rw [nMove_fw h.lg.ok, h.pts, q1]
        dsimp only
        have e1 : ptsOf (chS s.R (lst s.R.L) ((lst s.R.L).s + cst len (lst s.R.L).w)).L = ptsOf s.R.L := by
          unfold chS setT ptsOf
          dsimp only
          rw [List.map_map]
          refine List.map_congr_left fun t ht => ?_
          show ((if t.f = (lst s.R.L).f then (⟨(lst s.R.L).f, (lst s.R.L).w, (lst s.R.L).s + cst len (lst s.R.L).w⟩ : Tg) else t).f, (if t.f = (lst s.R.L).f then (⟨(lst s.R.L).f, (lst s.R.L).w, (lst s.R.L).s + cst len (lst s.R.L).w⟩ : Tg) else t).w) = (t.f, t.w)
          split
          · rename_i e
            rw [h.t.ok.ok.inj ht (lst_mem hL) e]
          · rfl
        rw [← e1]
        unfold rebS
        split
        · rfl
        · unfold subS ptsOf
          dsimp only
          rw [List.map_map]; rfl
      · dsimp only
        unfold resetC
        split
        · exact (h.nu.mput _ _).filt _
        · exact h.nu.filt _
      · dsimp only
        unfold resetC
        intro y hy
        have hy := (List.mem_filter.1 hy).1
        split at hy
        · unfold bumpC at hy
          rcases mput_mem hy with hy | rfl
          · exact hnv y hy
          · have := h.cnt c.ch
            dsimp only
            push_cast
            split <;> omega
        · exact hnv y hy
    · intro hr hl
      have e3 : C.tm = s.C.tm := by rw [← hC]; rfl
      have e4 : X.tm = s.X.tm := by rw [← hX]; rfl
      have := qs.2.2.2 hr (by rw [e3]; exact hl.c) (by rw [e4]; exact hl.x)
      unfold nextC
      refine ⟨?_, this.1, this.2⟩
      dsimp only
      rw [hcc, q1]
      dsimp only
      obtain ⟨_, hT, hmx⟩ := h.t.ch (by omega) hL hlen.1 hlen.2
      have hby := hT.by_ (setT_ne hL)
      unfold rebS
      rw [hby]
      split
      · omega
      · unfold subS; dsimp only; omega
end Go.Proofs.YtkmlkpfabkhleaaGreat

/- A slot of cifq, walked: heads that do not fit, no heads. -/
namespace Go.Proofs.YtkmlkpfabkhleaaGreat
open Go.RowKit
open SP
section
variable {w w' : World} {R : List SP} {b rp lp cp xp nb N : Nat} {num den reb : Int} {S : St} {Sp : SP}

theorem qcalm_set {x : Addr} {v : Value} (h : Calm w w') : Calm w (w'.setCell x v) := ⟨h.os, h.tape, h.output⟩
theorem qcalm_alloc {x : Obj} (h : Calm w w') : Calm w (w'.alloc x) := ⟨h.os, h.tape, h.output⟩
theorem qcalm_drew (h : Calm w w') : Calm w w'.drew := ⟨h.os, h.tape, h.output⟩
/-- A scheduler, all of it. -/
def CqF (b : Nat) (num den reb : Int) (N : Nat) (s : Cq) : SP := ex fun (p : (Nat × Nat × Nat) × (Nat × Nat)) =>
  st [CqC b num den p.1.1 p.1.2.1 p.1.2.2 p.2.1 p.2.2, SfqR p.1.1 reb s.R, LagR p.1.2.1 N s.D, mpI cntV p.2.2 s.n, OrdR p.1.2.2 reb s.C, OrdR p.2.1 reb s.X]
theorem CqF.iff {s : Cq} : Own w (CqF b num den reb N s :: R) ↔ ∃ rp lp cp xp nb, Own w (CqC b num den rp lp cp xp nb :: SfqR rp reb s.R :: LagR lp N s.D :: mpI cntV nb s.n :: OrdR cp reb s.C :: OrdR xp reb s.X :: R) := by
  constructor
  · intro o
    obtain ⟨⟨⟨rp, lp, cp⟩, xp, nb⟩, h⟩ := Own.ex.1 o
    exact ⟨rp, lp, cp, xp, nb, Own.st.1 h⟩
  · rintro ⟨rp, lp, cp, xp, nb, h⟩
    exact Own.ex.2 ⟨((rp, lp, cp), (xp, nb)), Own.st.2 h⟩

theorem chRow2 {fn : Func} (h : fn.results = #[.cell 4 38, .tmp 5]) {tmps : Array Value} {p : Nat} {x y z : Int} {e : Int} (hp : tmps.getD 4 undef = .pointer (some ⟨p, 0, none⟩)) (he : tmps.getD 5 undef = .int .i64 e)
    (o : Own w (cel p 38 [.int .i64 x, .int .i64 y, .int .i64 z] :: R)) : (results fn tmps).run Tryz.prog w = .ok (.tuple #[chV ⟨x, y, z⟩, .int .i64 e]) w := by
  have c0 := o.cell 0
  have c1 := o.cell 1
  have c2 := o.cell 2
  rw [results_cell_tmp h, hp, he]
  unfold chV
  go_simp

set_option maxHeartbeats 3200000 in
set_option maxRecDepth 100000 in
theorem step_unfit {a : Option Addr} {n c : Nat} {H : List Head} (h1 : HeadsAt Sp a H) (hn : n = H.length) (hl : n ≤ 33) (hf : fitsH S.L H = false) (o : Own w (CqC b num den rp lp cp xp nb :: SfqR rp reb S :: Sp :: R)) :
    Calls Tryz.prog 13 #[.pointer (some ⟨b, 0, none⟩), .slice a n c] w (Ret (.tuple #[chV ch0, .int .i64 1]) (CqC b num den rp lp cp xp nb :: SfqR rp reb S :: Sp :: R) w) := by
  have oA := (o.alloc (.cells #[.int .i64 0, .int .i64 0, .int .i64 0] 38)).alloc (.cells #[.int .i64 (-1), .int .i64 (-1), .int .i64 6] 38)
  simp only [World.size_alloc] at oA
  have hc := fits_spec (c := c) h1 hn (by omega) (oA.re [2, 3, 4, 0, 1])
  rw [hf] at hc
  clear hf hn
  go_enter Tryz.func13, Tryz.ntmps13
  go_wp2_with fail
  refine hc.mono ?_
  rintro e1 w1 ⟨rfl, o1, k1⟩
  clear hc
  have z0 := Own.cell (T := 38) (vs := [.int .i64 0, .int .i64 0, .int .i64 0]) (o1.up 4) 0
  have z1 := Own.cell (T := 38) (vs := [.int .i64 0, .int .i64 0, .int .i64 0]) (o1.up 4) 1
  have z2 := Own.cell (T := 38) (vs := [.int .i64 0, .int .i64 0, .int .i64 0]) (o1.up 4) 2
  have zf := Own.frozen (T := 38) (vs := [.int .i64 0, .int .i64 0, .int .i64 0]) (o1.up 4)
  have zl := Own.celLt (T := 38) (vs := [.int .i64 0, .int .i64 0, .int .i64 0]) (o1.up 4)
  have o5 := Own.setCell (T := 38) (vs := [.int .i64 0, .int .i64 0, .int .i64 0]) (o1.up 4) 0 (.int .i64 0)
  have o6 := Own.setCell (T := 38) (vs := [.int .i64 0, .int .i64 0, .int .i64 0]) o5 1 (.int .i64 0)
  have o7 := Own.setCell (T := 38) (vs := [.int .i64 0, .int .i64 0, .int .i64 0]) o6 2 (.int .i64 0)
  go_wp2
  refine bodyPost_ret (v := .tuple #[chV ⟨0, 0, 0⟩, .int .i64 1]) ?_ rfl ?_
  · exact chRow2 (p := w.heap.size) rfl rfl rfl o7
  · exact ⟨rfl, (o7.drop).re [3] 1, ⟨k1.os, k1.tape, k1.output⟩⟩
set_option maxHeartbeats 3200000 in
set_option maxRecDepth 100000 in
theorem step_empty {a : Option Addr} {c : Nat} (hf : S.L = []) (o : Own w (CqC b num den rp lp cp xp nb :: SfqR rp reb S :: Sp :: R)) :
    Calls Tryz.prog 13 #[.pointer (some ⟨b, 0, none⟩), .slice a 0 c] w (Ret (.tuple #[chV ch0, .int .i64 5]) (CqC b num den rp lp cp xp nb :: SfqR rp reb S :: Sp :: R) w) := by
  have oA := (o.alloc (.cells #[.int .i64 0, .int .i64 0, .int .i64 0] 38)).alloc (.cells #[.int .i64 (-1), .int .i64 (-1), .int .i64 6] 38)
  simp only [World.size_alloc] at oA
  have hc := fits_spec (a := a) (c := c) (n := 0) (H := []) (fun w R _ i h e => by simp at e) rfl (by omega) (oA.re [2, 3, 4, 0, 1])
  have hfit : fitsH S.L [] = true := by rw [hf]; rfl
  rw [hfit] at hc
  clear hf hfit
  go_enter Tryz.func13, Tryz.ntmps13
  go_wp2_with fail
  refine hc.mono ?_
  rintro e1 w1 ⟨rfl, o1, k1⟩
  clear hc
  have z0 := Own.cell (T := 38) (vs := [.int .i64 0, .int .i64 0, .int .i64 0]) (o1.up 4) 0
  have z1 := Own.cell (T := 38) (vs := [.int .i64 0, .int .i64 0, .int .i64 0]) (o1.up 4) 1
  have z2 := Own.cell (T := 38) (vs := [.int .i64 0, .int .i64 0, .int .i64 0]) (o1.up 4) 2
  have zf := Own.frozen (T := 38) (vs := [.int .i64 0, .int .i64 0, .int .i64 0]) (o1.up 4)
  have zl := Own.celLt (T := 38) (vs := [.int .i64 0, .int .i64 0, .int .i64 0]) (o1.up 4)
  have o5 := Own.setCell (T := 38) (vs := [.int .i64 0, .int .i64 0, .int .i64 0]) (o1.up 4) 0 (.int .i64 0)
  have o6 := Own.setCell (T := 38) (vs := [.int .i64 0, .int .i64 0, .int .i64 0]) o5 1 (.int .i64 0)
  have o7 := Own.setCell (T := 38) (vs := [.int .i64 0, .int .i64 0, .int .i64 0]) o6 2 (.int .i64 0)
  go_wp2
  refine bodyPost_ret (v := .tuple #[chV ⟨0, 0, 0⟩, .int .i64 5]) ?_ rfl ?_
  · exact chRow2 (p := w.heap.size) rfl rfl rfl o7
  · exact ⟨rfl, (o7.drop).re [3] 1, ⟨k1.os, k1.tape, k1.output⟩⟩
end
end Go.Proofs.YtkmlkpfabkhleaaGreat

/- Iwfq in memory: New, Join. -/
namespace Go.Proofs.YtkmlkpfabkhleaaGreat
open Go.RowKit
open SP
section
variable {w w' : World} {R : List SP} {b rp ab : Nat} {reb : Int} {s : Iw} {m : List (Int × Acc)}

def accI (a : Acc) : Value := .agg #[.int .i64 a.1, .int .i64 a.2.1, .int .i64 a.2.2]
theorem Tryz.zeroIw (w : World) : (zeroValue 143).run Tryz.prog w = .ok (.agg #[.int .i64 0, .int .i64 0, .int .i64 0]) w := by kernel_rfl
theorem lookI (o : Own w (mpI accI ab m :: R)) (k : Int) :
    (Instr.lookup 137 (.map (some ab)) (.int .i64 k) false).run Tryz.prog w = .ok (accI (accO m k)) w := by
  rw [run_lookup_mpI Tryz.underlying137 Tryz.underlying3 Tryz.zeroIw o k false]
  unfold accO
  cases mget m k <;> rfl
/-- The struct of a scheduler. -/
abbrev IwC (b rp ab : Nat) : SP := cel b 139 [.pointer (some ⟨rp, 0, none⟩), .map (some ab)]
/-- A scheduler, all of it. -/
def IwR (b : Nat) (reb : Int) (s : Iw) : SP := ex fun (p : Nat × Nat) => st [IwC b p.1 p.2, SfqR p.1 reb s.R, mpI accI p.2 s.m]
theorem IwR.iff : Own w (IwR b reb s :: R) ↔ ∃ rp ab, Own w (IwC b rp ab :: SfqR rp reb s.R :: mpI accI ab s.m :: R) := by
  constructor
  · intro o
    obtain ⟨⟨rp, ab⟩, h⟩ := Own.ex.1 o
    exact ⟨rp, ab, Own.st.1 h⟩
  · rintro ⟨rp, ab, h⟩
    exact Own.ex.2 ⟨(rp, ab), Own.st.2 h⟩
def iw0 : Iw := ⟨⟨[], fun _ => 0, 0, 0⟩, []⟩

set_option maxHeartbeats 1600000 in
set_option maxRecDepth 100000 in
theorem iwNew_spec (r : Int) (h1 : 1 ≤ r) (h2 : r ≤ 1099511627776) (o : Own w R) :
    Calls Tryz.prog 26 #[.int .i64 r] w fun e w' => ∃ b, Ret (.tuple #[.pointer (some ⟨b, 0, none⟩), .int .i64 0]) (IwR b r iw0 :: R) w e w' := by
  have hmm := @run_makeMap Tryz.prog
  go_enter Tryz.func26, Tryz.ntmps26
  go_wp2_with fail
  refine (sfqNew_spec r h1 h2 o).mono ?_
  rintro e1 w1 ⟨rp, rfl, o1, k1⟩
  have oX := o1.mpI_made (f := accI) (α := Acc)
  have oY := oX.alloc (.cells #[.pointer (some ⟨rp, 0, none⟩), .map (some w1.heap.size)] 139)
  simp only [World.size_alloc] at oY
  go_wp2
  go_ret2
  exact ⟨w1.heap.size + 1, rfl, IwR.iff.2 ⟨rp, w1.heap.size, oY.re [0, 2, 1]⟩, qcalm_alloc (qcalm_alloc k1)⟩

def bndI (x y : Int) : Bool := decide (0 ≤ x) && decide (x ≤ 1099511627776) && decide (0 ≤ y) && decide (y ≤ 1099511627776)
set_option maxHeartbeats 800000 in
theorem bounded_spec (x y : Int) (w : World) : Calls Tryz.prog 79 #[.int .i64 x, .int .i64 y] w (IsRet (.bool (bndI x y)) w) := by
  go_enter Tryz.func79, Tryz.ntmps79
  go_wp2
  · go_ret
    exact ⟨congrArg (fun z => Ending.returned (.bool z)) (by unfold bndI; simp [*]), rfl⟩
  all_goals go_ret
  all_goals exact ⟨congrArg (fun z => Ending.returned (.bool z)) (by symm; unfold bndI; simp only [Bool.and_eq_false_iff, decide_eq_false_iff_not]; omega), rfl⟩

/-- Join. -/
def joinI (s : Iw) (f wt x y : Int) : Int × Iw :=
  if bndI x y = false then (1, s) else if joinE s.R f wt = 0 then (0, ⟨joinS s.R f wt, mput s.m f (0, x, y)⟩) else (joinE s.R f wt, s)
set_option maxHeartbeats 1600000 in
set_option maxRecDepth 100000 in
theorem iwJoin_spec (f wt x y : Int) (o : Own w (IwR b reb s :: R)) :
    Calls Tryz.prog 32 #[.pointer (some ⟨b, 0, none⟩), .int .i64 f, .int .i64 wt, .int .i64 x, .int .i64 y] w (Ret (.int .i64 (joinI s f wt x y).1) (IwR b reb (joinI s f wt x y).2 :: R) w) := by
  have hb := bounded_spec x y w
  unfold joinI
  cases hbb : bndI x y with
  | false =>
    rw [hbb] at hb
    rw [if_pos rfl]
    go_enter Tryz.func32, Tryz.ntmps32
    go_wp2_with fail
    refine hb.mono ?_
    rintro e1 w1 ⟨rfl, rfl⟩
    go_wp2
    go_ret
    exact ⟨rfl, o, Calm.refl _⟩
  | true =>
    rw [hbb] at hb
    rw [if_neg (by simp)]
    obtain ⟨rp, ab, o1⟩ := IwR.iff.1 o
    have c0 := o1.cell 0
    have cl := o1.celLt
    have hq := sfqJoin_spec f wt (o1.re [1])
    unfold joinR at hq
    clear hbb
    by_cases hj : joinE s.R f wt = 0
    · rw [if_pos hj, hj] at hq
      rw [if_pos hj]
      dsimp only at hq
      clear hj
      go_enter Tryz.func32, Tryz.ntmps32
      go_wp2_with fail
      refine hb.mono ?_
      rintro e1 w1 ⟨rfl, rfl⟩
      go_wp2_with fail
      refine hq.mono ?_
      rintro e2 w2 ⟨rfl, o2, k2⟩
      clear hq c0 cl
      have c1 := (o2.up 1).cell 1
      have cl := (o2.up 1).celLt
      obtain ⟨w3, hr3, o3, k3⟩ := run_mapUpdate_mpI (P := Tryz.prog) (f := accI) Tryz.underlying137 Tryz.underlying3 (o2.re [2]) f (0, x, y)
      unfold accI at hr3
      go_wp2
      go_ret
      exact ⟨rfl, IwR.iff.2 ⟨rp, ab, o3.re [2, 1, 0]⟩, k2.trans k3⟩
    · rw [if_neg hj] at hq ⊢
      have hn : (joinE s.R f wt == 0) = false := by simpa using hj
      dsimp only at hq
      generalize joinE s.R f wt = J at *
      clear hj
      go_enter Tryz.func32, Tryz.ntmps32
      go_wp2_with fail
      refine hb.mono ?_
      rintro e1 w1 ⟨rfl, rfl⟩
      go_wp2_with fail
      refine hq.mono ?_
      rintro e2 w2 ⟨rfl, o2, k2⟩
      clear hq c0 cl
      go_wp2
      go_ret
      exact ⟨rfl, IwR.iff.2 ⟨rp, ab, o2.re [1, 0]⟩, k2⟩
end
end Go.Proofs.YtkmlkpfabkhleaaGreat

/- Iwfq: the tags of service; comparisons of tags. -/
namespace Go.Proofs.YtkmlkpfabkhleaaGreat
open Go.RowKit
open SP
section
variable {w w' : World} {R : List SP} {b rp ab : Nat} {reb : Int} {s : Iw} {m : List (Int × Acc)}

theorem nan64_spec (x : Int) (w : World) : Calls Tryz.prog 182 #[.int .i64 x] w (fun e w' => e = .returned (.bool false) ∧ w = w') := by
  go_enter Tryz.func182, Tryz.ntmps182
  go_wp2
  go_ret
  simp
theorem nan_spec (x : Int) (w : World) : Calls Tryz.prog 183 #[.int .i64 x] w (fun e w' => e = .returned (.bool false) ∧ w = w') := by
  go_enter Tryz.func183, Tryz.ntmps183
  go_wp2
  go_ret
  simp
set_option maxHeartbeats 800000 in
set_option maxRecDepth 100000 in
theorem cmp64_spec (x y : Int) (w : World) : Calls Tryz.prog 164 #[.int .i64 x, .int .i64 y] w (IsRet (.int .i64 (cmpZ x y)) w) := by
  by_cases h1 : x < y
  · have e : cmpZ x y = -1 := if_pos h1
    rw [e]; clear e
    go_enter Tryz.func164, Tryz.ntmps164
    go_wp2_with (go_at_call 182; refine (nan64_spec _ _).mono ?_; rintro e w' ⟨rfl, rfl⟩)
    go_ret
    exact ⟨rfl, rfl⟩
  · by_cases h2 : y < x
    · have e : cmpZ x y = 1 := by unfold cmpZ; rw [if_neg h1, if_pos h2]
      rw [e]; clear e
      go_enter Tryz.func164, Tryz.ntmps164
      go_wp2_with (go_at_call 182; refine (nan64_spec _ _).mono ?_; rintro e w' ⟨rfl, rfl⟩)
      go_ret
      exact ⟨rfl, rfl⟩
    · have e : cmpZ x y = 0 := by unfold cmpZ; rw [if_neg h1, if_neg h2]
      rw [e]; clear e
      go_enter Tryz.func164, Tryz.ntmps164
      go_wp2_with (go_at_call 182; refine (nan64_spec _ _).mono ?_; rintro e w' ⟨rfl, rfl⟩)
      go_ret
      exact ⟨rfl, rfl⟩
set_option maxHeartbeats 800000 in
set_option maxRecDepth 100000 in
theorem cmp_spec (x y : Int) (w : World) : Calls Tryz.prog 165 #[.int .i64 x, .int .i64 y] w (IsRet (.int .i64 (cmpZ x y)) w) := by
  by_cases h1 : x < y
  · have e : cmpZ x y = -1 := if_pos h1
    rw [e]; clear e
    go_enter Tryz.func165, Tryz.ntmps165
    go_wp2_with (go_at_call 183; refine (nan_spec _ _).mono ?_; rintro e w' ⟨rfl, rfl⟩)
    go_ret
    exact ⟨rfl, rfl⟩
  · by_cases h2 : y < x
    · have e : cmpZ x y = 1 := by unfold cmpZ; rw [if_neg h1, if_pos h2]
      rw [e]; clear e
      go_enter Tryz.func165, Tryz.ntmps165
      go_wp2_with (go_at_call 183; refine (nan_spec _ _).mono ?_; rintro e w' ⟨rfl, rfl⟩)
      go_ret
      exact ⟨rfl, rfl⟩
    · have e : cmpZ x y = 0 := by unfold cmpZ; rw [if_neg h1, if_neg h2]
      rw [e]; clear e
      go_enter Tryz.func165, Tryz.ntmps165
      go_wp2_with (go_at_call 183; refine (nan_spec _ _).mono ?_; rintro e w' ⟨rfl, rfl⟩)
      go_ret
      exact ⟨rfl, rfl⟩

set_option maxHeartbeats 800000 in
set_option maxRecDepth 100000 in
/-- tags.Normalized of a lag. -/
theorem norm_spec (x wt : Int) (h1 : -1099511627776 ≤ x) (h2 : x ≤ 1099511627776) (h3 : 1 ≤ wt) (h4 : wt ≤ 16) (w : World) :
    Calls Tryz.prog 166 #[.int .i64 x, .int .i64 wt] w (IsRet (.tuple #[.int .i64 (x * unit1 wt), .int .i64 0]) w) := by
  have hw := weighty_spec wt w
  rw [show decide (1 ≤ wt ∧ wt ≤ 16) = true from by simp; omega] at hw
  obtain ⟨u1, u2⟩ := unit1_range h3 h4
  have m1 : x * unit1 wt ≤ 1099511627776 * 720720 := by
    by_cases h0 : 0 ≤ x
    · exact Int.mul_le_mul h2 u2 (by omega) (by omega)
    · have := Int.mul_nonneg (show 0 ≤ -x by omega) (show 0 ≤ unit1 wt by omega)
      rw [Int.neg_mul] at this
      omega
  have m2 : -(1099511627776 * 720720) ≤ x * unit1 wt := by
    by_cases h0 : 0 ≤ x
    · have := Int.mul_nonneg h0 (show 0 ≤ unit1 wt by omega); omega
    · have := Int.mul_le_mul (show -x ≤ 1099511627776 by omega) u2 (by omega) (by omega)
      rw [Int.neg_mul] at this
      omega
  have e1 : Int.tdiv 720720 wt = unit1 wt := rfl
  obtain ⟨z, hz⟩ : ∃ z, x * unit1 wt = z := ⟨_, rfl⟩
  rw [hz] at m1 m2 ⊢
  generalize unit1 wt = u at *
  have hz : ¬ wt = 0 := by omega
  have d1 : decide (x < -1099511627776) = false := decide_eq_false (by omega)
  have d2 : decide (1099511627776 < x) = false := decide_eq_false (by omega)
  go_enter Tryz.func166, Tryz.ntmps166
  go_wp2_with fail
  refine hw.mono ?_
  rintro e1 w1 ⟨rfl, rfl⟩
  go_wp2
  go_ret2
  exact ⟨rfl, rfl⟩

/-! ### Worlds that only grow -/
def Grw (w w' : World) : Prop := ∃ (q : Nat) (os : Array Obj), w' = Go.Sort.grow (w.drewN q) os
theorem Grw.refl (w : World) : Grw w w := ⟨0, #[], by rw [Go.Sort.grow_empty]; rfl⟩
theorem drewN_two (w : World) (p q : Nat) : (w.drewN p).drewN q = w.drewN (p + q) := by
  unfold World.drewN
  simp [Nat.add_assoc]
theorem Grw.trans {a b c : World} (h : Grw a b) (k : Grw b c) : Grw a c := by
  obtain ⟨p, os, rfl⟩ := h
  obtain ⟨q, os', rfl⟩ := k
  refine ⟨p + q, os ++ os', ?_⟩
  rw [← Go.Sort.grow_grow, ← drewN_two]
  rfl
theorem Grw.alloc {a b : World} (h : Grw a b) (x : Obj) : Grw a (b.alloc x) := h.trans ⟨0, #[x], by rw [Go.Sort.alloc_eq_grow]; rfl⟩
theorem Grw.drew {a b : World} (h : Grw a b) : Grw a b.drew := h.trans ⟨1, #[], by rw [Go.Sort.grow_empty]; rfl⟩
theorem Grw.calm (h : Grw w w') : Calm w w' := by
  obtain ⟨p, os, rfl⟩ := h
  exact ⟨rfl, rfl, rfl⟩
theorem Own.grw {l : List SP} (o : Own w l) (h : Grw w w') : Own w' l := by
  obtain ⟨p, os, rfl⟩ := h
  obtain ⟨σ, hs, hw⟩ := o
  refine ⟨σ, hs, fun k x hk => ?_⟩
  have h1 := hw k x hk
  show (w.heap ++ os)[k]? = some x
  rw [Array.getElem?_append_left (Array.getElem?_eq_some_iff.1 h1).1]
  exact h1
theorem Grw.size (h : Grw w w') : w.heap.size ≤ w'.heap.size := by
  obtain ⟨p, os, rfl⟩ := h
  show w.heap.size ≤ (w.heap ++ os).size
  rw [Array.size_append]; omega
/-- A call that answers v and only adds to memory. -/
def GRet (v : Value) (w : World) (e : Ending) (w' : World) : Prop := e = .returned v ∧ Grw w w'

/-- Lags that are not far. -/
def LagOk (m : List (Int × Acc)) : Prop := ∀ f, -1099511627776 ≤ (accO m f).1 ∧ (accO m f).1 ≤ 1099511627776
theorem svc_rng {x wt st : Int} (h1 : -1099511627776 ≤ x) (h2 : x ≤ 1099511627776) (h3 : 1 ≤ wt) (h4 : wt ≤ 16) (h5 : 0 ≤ st) (h6 : st ≤ 1099511627776) :
    -9223372036854775808 ≤ st - x * unit1 wt ∧ st - x * unit1 wt ≤ 9223372036854775807 := by
  obtain ⟨u1, u2⟩ := unit1_range h3 h4
  have m1 : x * unit1 wt ≤ 1099511627776 * 720720 := by
    by_cases h0 : 0 ≤ x
    · exact Int.mul_le_mul h2 u2 (by omega) (by omega)
    · have := Int.mul_nonneg (show 0 ≤ -x by omega) (show 0 ≤ unit1 wt by omega)
      rw [Int.neg_mul] at this
      omega
  have m2 : -(1099511627776 * 720720) ≤ x * unit1 wt := by
    by_cases h0 : 0 ≤ x
    · have := Int.mul_nonneg h0 (show 0 ≤ unit1 wt by omega); omega
    · have := Int.mul_le_mul (show -x ≤ 1099511627776 by omega) u2 (by omega) (by omega)
      rw [Int.neg_mul] at this
      omega
  omega
theorem Tryz.fieldI (x y z : Value) (w : World) : (Instr.field 143 (.agg #[x, y, z]) 0).run Tryz.prog w = .ok x w ∧ (Instr.field 143 (.agg #[x, y, z]) 1).run Tryz.prog w = .ok y w ∧ (Instr.field 143 (.agg #[x, y, z]) 2).run Tryz.prog w = .ok z w := ⟨by kernel_rfl, by kernel_rfl, by kernel_rfl⟩
set_option maxHeartbeats 1600000 in
set_option maxRecDepth 100000 in
theorem svc_spec {t : Tg} (hm : LagOk m) (h3 : 1 ≤ t.w) (h4 : t.w ≤ 16) (h5 : 0 ≤ t.s) (h6 : t.s ≤ 1099511627776) (o : Own w (IwC b rp ab :: mpI accI ab m :: R)) :
    Calls Tryz.prog 126 #[.pointer (some ⟨b, 0, none⟩), tagV t] w (GRet (.int .i64 (svcI m t)) w) := by
  have hrg := svc_rng (hm t.f).1 (hm t.f).2 h3 h4 h5 h6
  have hnm := fun w => norm_spec (accO m t.f).1 t.w (hm t.f).1 (hm t.f).2 h3 h4 w
  have c1 := o.cell 1
  have cl := o.celLt
  have oA := (o.alloc (.cells #[.int .i64 t.f, .int .i64 t.w, .int .i64 t.s] 128)).drew
  have hlk := lookI (oA.up 2) t.f
  unfold tagV svcI
  unfold accI at hlk
  obtain ⟨f, wt, st⟩ := t
  dsimp only at *
  generalize accO m f = A at *
  obtain ⟨x, x1, x2⟩ := A
  dsimp only at *
  generalize x * unit1 wt = z at *
  have hf0 := fun w => (Tryz.fieldI (.int .i64 x) (.int .i64 x1) (.int .i64 x2) w).1
  go_enter Tryz.func126, Tryz.ntmps126
  go_wp2
  refine wp_region_tail 15 (by kernel_rfl) (by kernel_rfl) ?_
  simp only [List.take_succ_cons, List.take_zero, List.drop_succ_cons, List.drop_zero]
  repeat still_step
  still_call (IsRet.still (hnm _))
  repeat still_step
  refine wpStill_nil ?_
  go_wp2
  go_ret
  exact ⟨rfl, ((Grw.refl w).alloc _).drew⟩
set_option maxHeartbeats 800000 in
theorem start2_spec (t : Tg) (w : World) : Calls Tryz.prog 127 #[tagV t] w (GRet (.int .i64 t.s) w) := by
  unfold tagV
  go_enter Tryz.func127, Tryz.ntmps127
  go_wp2
  go_ret
  exact ⟨rfl, (Grw.refl w).alloc _⟩
end
end Go.Proofs.YtkmlkpfabkhleaaGreat

/- Iwfq: comparisons of tags, by the tag of service and by the start tag. -/
namespace Go.Proofs.YtkmlkpfabkhleaaGreat
open Go.RowKit
open SP
section
variable {w w' : World} {R : List SP} {b rp ab kb : Nat} {m : List (Int × Acc)}

structure TgR (t : Tg) : Prop where
  w1 : 1 ≤ t.w
  w2 : t.w ≤ 16
  s1 : 0 ≤ t.s
  s2 : t.s ≤ 1099511627776
abbrev svcF (b : Nat) : Value := .func (.func 126) #[.pointer (some ⟨b, 0, none⟩)] #[]
abbrev staF : Value := .func (.func 127) #[] #[]
abbrev boxK (kb : Nat) (kv : Value) : SP := cel kb 191 [kv]
theorem tagCells {g : Nat} {t : Tg} (o : Own w (cel g 128 (tagC t) :: R)) : w.cell? ⟨g, 0, none⟩ = some (.int .i64 t.f) ∧ w.cell? ⟨g, 1, none⟩ = some (.int .i64 t.w) ∧ w.cell? ⟨g, 2, none⟩ = some (.int .i64 t.s) := ⟨o.cell 0, o.cell 1, o.cell 2⟩

set_option maxHeartbeats 3200000 in
set_option maxRecDepth 100000 in
theorem cmpSvc_spec {x y : Tg} (hm : LagOk m) (hx : TgR x) (hy : TgR y) (o : Own w (boxK kb (svcF b) :: IwC b rp ab :: mpI accI ab m :: R)) :
    Calls Tryz.prog 162 #[tagV x, tagV y, .pointer (some ⟨kb, 0, none⟩)] w (GRet (.int .i64 (orZ (cmpZ (svcI m x) (svcI m y)) (cmpZ x.f y.f))) w) := by
  have oA : Own ((w.alloc (.cells (tagC x).toArray 128)).alloc (.cells (tagC y).toArray 128)) (cel (w.heap.size + 1) 128 (tagC y) :: cel w.heap.size 128 (tagC x) :: boxK kb (svcF b) :: IwC b rp ab :: mpI accI ab m :: R) := by
    have := (o.alloc (.cells (tagC x).toArray 128)).alloc (.cells (tagC y).toArray 128)
    simp only [World.size_alloc] at this
    exact this
  have oD := oA.drew
  obtain ⟨y0, y1, y2⟩ := tagCells oA
  obtain ⟨x0, x1, x2⟩ := tagCells (oA.up 1)
  have k0 := o.cell 0
  have kl := o.celLt
  have hcx := svc_spec hm hx.w1 hx.w2 hx.s1 hx.s2 (oD.re [3, 4])
  have hcy := fun (w2 : World) (o : Own w2 (cel (w.heap.size + 1) 128 (tagC y) :: cel w.heap.size 128 (tagC x) :: boxK kb (svcF b) :: IwC b rp ab :: mpI accI ab m :: R)) => svc_spec hm hy.w1 hy.w2 hy.s1 hy.s2 (o.re [3, 4])
  generalize svcI m x = X at *
  generalize svcI m y = Y at *
  obtain ⟨f, wt, st⟩ := x
  obtain ⟨f2, wt2, st2⟩ := y
  unfold tagV at *
  unfold tagC at hcx
  dsimp only at *
  go_enter Tryz.func162, Tryz.ntmps162
  go_wp2
  go_region_held3 (fun w' => (w'.cell? ⟨kb, 0, none⟩ = some (svcF b) ∧ w'.cell? ⟨w.heap.size, 0, none⟩ = some (.int .i64 f) ∧ w'.cell? ⟨w.heap.size, 1, none⟩ = some (.int .i64 wt) ∧ w'.cell? ⟨w.heap.size, 2, none⟩ = some (.int .i64 st)) ∧ w'.cell? ⟨w.heap.size + 1, 0, none⟩ = some (.int .i64 f2) ∧ w'.cell? ⟨w.heap.size + 1, 1, none⟩ = some (.int .i64 wt2) ∧ w'.cell? ⟨w.heap.size + 1, 2, none⟩ = some (.int .i64 st2)) (go_keep) (first
    | (go_at_call 126; (with_reducible refine hcx.mono ?_); rintro e1 w2 ⟨rfl, g1⟩; have o2 := oD.grw g1; obtain ⟨p0, p1, p2⟩ := tagCells o2; obtain ⟨q0, q1, q2⟩ := tagCells (o2.up 1); have r0 := (o2.up 2).cell 0; have hcy2 := hcy _ o2)
    | (go_at_call 126; (with_reducible refine hcy2.mono ?_); rintro e1 w3 ⟨rfl, g2⟩; have o3 := o2.grw g2; obtain ⟨u0, u1, u2⟩ := tagCells o3; obtain ⟨v0, v1, v2⟩ := tagCells (o3.up 1); have z0 := (o3.up 2).cell 0)
    | (go_at_call 164; (with_reducible refine (cmp64_spec _ _ _).mono ?_); rintro e1 w4 ⟨rfl, rfl⟩)
    | (go_at_call 165; (with_reducible refine (cmp_spec _ _ _).mono ?_); rintro e1 w5 ⟨rfl, rfl⟩)
    | (go_at_call 163; (refine (or_spec w3.heap.size (cmpZ X Y) (cmpZ f f2) _ ?_ ?_).mono ?_); (go_simp); (go_simp); rintro e1 w6 ⟨rfl, rfl⟩))
  go_wp2
  go_ret
  exact ⟨rfl, (((((Grw.refl w).alloc _).alloc _).drew.trans g1).trans g2).alloc _⟩
set_option maxHeartbeats 3200000 in
set_option maxRecDepth 100000 in
theorem cmpSta_spec {x y : Tg} (o : Own w (boxK kb staF :: R)) :
    Calls Tryz.prog 162 #[tagV x, tagV y, .pointer (some ⟨kb, 0, none⟩)] w (GRet (.int .i64 (orZ (cmpZ (x.s) (y.s)) (cmpZ x.f y.f))) w) := by
  have oA : Own ((w.alloc (.cells (tagC x).toArray 128)).alloc (.cells (tagC y).toArray 128)) (cel (w.heap.size + 1) 128 (tagC y) :: cel w.heap.size 128 (tagC x) :: boxK kb staF :: R) := by
    have := (o.alloc (.cells (tagC x).toArray 128)).alloc (.cells (tagC y).toArray 128)
    simp only [World.size_alloc] at this
    exact this
  have oD := oA.drew
  obtain ⟨y0, y1, y2⟩ := tagCells oA
  obtain ⟨x0, x1, x2⟩ := tagCells (oA.up 1)
  have k0 := o.cell 0
  have kl := o.celLt
  have hcx := start2_spec x
  have hcy := start2_spec y
  obtain ⟨f, wt, st⟩ := x
  obtain ⟨f2, wt2, st2⟩ := y
  unfold tagV at *
  skip
  dsimp only at *
  go_enter Tryz.func162, Tryz.ntmps162
  go_wp2
  go_region_held3 (fun w' => (w'.cell? ⟨kb, 0, none⟩ = some (staF) ∧ w'.cell? ⟨w.heap.size, 0, none⟩ = some (.int .i64 f) ∧ w'.cell? ⟨w.heap.size, 1, none⟩ = some (.int .i64 wt) ∧ w'.cell? ⟨w.heap.size, 2, none⟩ = some (.int .i64 st)) ∧ w'.cell? ⟨w.heap.size + 1, 0, none⟩ = some (.int .i64 f2) ∧ w'.cell? ⟨w.heap.size + 1, 1, none⟩ = some (.int .i64 wt2) ∧ w'.cell? ⟨w.heap.size + 1, 2, none⟩ = some (.int .i64 st2)) (go_keep) (first
    | (go_at_call 127; (with_reducible refine (hcx _).mono ?_); rintro e1 w2 ⟨rfl, g1⟩; have o2 := oD.grw g1; obtain ⟨p0, p1, p2⟩ := tagCells o2; obtain ⟨q0, q1, q2⟩ := tagCells (o2.up 1); have r0 := (o2.up 2).cell 0; have hcy2 := hcy w2)
    | (go_at_call 127; (with_reducible refine hcy2.mono ?_); rintro e1 w3 ⟨rfl, g2⟩; have o3 := o2.grw g2; obtain ⟨u0, u1, u2⟩ := tagCells o3; obtain ⟨v0, v1, v2⟩ := tagCells (o3.up 1); have z0 := (o3.up 2).cell 0)
    | (go_at_call 164; (with_reducible refine (cmp64_spec _ _ _).mono ?_); rintro e1 w4 ⟨rfl, rfl⟩)
    | (go_at_call 165; (with_reducible refine (cmp_spec _ _ _).mono ?_); rintro e1 w5 ⟨rfl, rfl⟩)
    | (go_at_call 163; (refine (or_spec w3.heap.size (cmpZ st st2) (cmpZ f f2) _ ?_ ?_).mono ?_); (go_simp); (go_simp); rintro e1 w6 ⟨rfl, rfl⟩))
  go_wp2
  go_ret
  exact ⟨rfl, (((((Grw.refl w).alloc _).alloc _).drew.trans g1).trans g2).alloc _⟩
end
end Go.Proofs.YtkmlkpfabkhleaaGreat

/- Contracts of the library, at the numbers of this translation: laid by program. -/
namespace Go.Proofs.YtkmlkpfabkhleaaGreat
open Go.Shelf
def Tryz.sortT_ren : Go.Shelf.Ren := ⟨fun | 6 => 161 | 15 => 180 | 14 => 181 | 28 => 203 | 29 => 204 | 20 => 205 | 21 => 206 | 22 => 207 | 23 => 208 | 24 => 209 | 25 => 210 | 26 => 211 | 27 => 212 | 46 => 219 | 47 => 215 | 48 => 216 | 49 => 220 | 50 => 221 | 57 => 224 | n => n, fun | 22 => 58 | 24 => 128 | 25 => 218 | 3 => 3 | 39 => 204 | 0 => 0 | 53 => 247 | 55 => 110 | 4 => 4 | 46 => 240 | 45 => 239 | 50 => 163 | 5 => 5 | 9 => 9 | 66 => 255 | 70 => 259 | 76 => 265 | 77 => 266 | n => n, fun | n => n⟩
theorem Tryz.sortT : Go.Proofs.SlLaysF0.n6 Tryz.prog Tryz.sortT_ren := {
  mixed := by kernel_rfl
  f6 := ⟨Tryz.f161.name, by decide, Tryz.func161.trans (congrArg some (by kernel_rfl))⟩
  f14 := ⟨Tryz.f181.name, by decide, Tryz.func181.trans (congrArg some (by kernel_rfl))⟩
  f15 := Tryz.func180.trans (congrArg some (by kernel_rfl))
  f20 := ⟨Tryz.f205.name, by decide, Tryz.func205.trans (congrArg some (by kernel_rfl))⟩
  f21 := ⟨Tryz.f206.name, by decide, Tryz.func206.trans (congrArg some (by kernel_rfl))⟩
  f22 := ⟨Tryz.f207.name, by decide, Tryz.func207.trans (congrArg some (by kernel_rfl))⟩
  f23 := ⟨Tryz.f208.name, by decide, Tryz.func208.trans (congrArg some (by kernel_rfl))⟩
  f24 := ⟨Tryz.f209.name, by decide, Tryz.func209.trans (congrArg some (by kernel_rfl))⟩
  f25 := ⟨Tryz.f210.name, by decide, Tryz.func210.trans (congrArg some (by kernel_rfl))⟩
  f26 := ⟨Tryz.f211.name, by decide, Tryz.func211.trans (congrArg some (by kernel_rfl))⟩
  f27 := ⟨Tryz.f212.name, by decide, Tryz.func212.trans (congrArg some (by kernel_rfl))⟩
  f28 := Tryz.func203.trans (congrArg some (by kernel_rfl))
  f29 := Tryz.func204.trans (congrArg some (by kernel_rfl))
  f46 := ⟨Tryz.f219.name, by decide, Tryz.func219.trans (congrArg some (by kernel_rfl))⟩
  f47 := Tryz.func215.trans (congrArg some (by kernel_rfl))
  f48 := Tryz.func216.trans (congrArg some (by kernel_rfl))
  f49 := ⟨Tryz.f220.name, by decide, Tryz.func220.trans (congrArg some (by kernel_rfl))⟩
  f50 := ⟨Tryz.f221.name, by decide, Tryz.func221.trans (congrArg some (by kernel_rfl))⟩
  f57 := ⟨Tryz.f224.name, by decide, Tryz.func224.trans (congrArg some (by kernel_rfl))⟩
  t0 := Tryz.underlying0
  a0 := Tryz.isAgg0
  z0 := Tryz.sizeOf0
  v0 := Tryz.zeroValue0
  t3 := Tryz.underlying3
  a3 := Tryz.isAgg3
  z3 := Tryz.sizeOf3
  v3 := Tryz.zeroValue3
  t4 := Tryz.underlying4
  a4 := Tryz.isAgg4
  z4 := Tryz.sizeOf4
  v4 := Tryz.zeroValue4
  t5 := Tryz.underlying5
  a5 := Tryz.isAgg5
  z5 := Tryz.sizeOf5
  v5 := Tryz.zeroValue5
  t9 := Tryz.underlying9
  a9 := Tryz.isAgg9
  z9 := Tryz.sizeOf9
  v9 := Tryz.zeroValue9
  t22 := Tryz.underlying58
  a22 := Tryz.isAgg58
  z22 := Tryz.sizeOf58
  v22 := Tryz.zeroValue58
  t25 := Tryz.underlying218
  a25 := Tryz.isAgg218
  z25 := Tryz.sizeOf218
  v25 := Tryz.zeroValue218
  t39 := Tryz.underlying204
  a39 := Tryz.isAgg204
  z39 := Tryz.sizeOf204
  v39 := Tryz.zeroValue204
  t45 := Tryz.underlying239
  a45 := Tryz.isAgg239
  z45 := Tryz.sizeOf239
  v45 := Tryz.zeroValue239
  t46 := Tryz.underlying240
  a46 := Tryz.isAgg240
  z46 := Tryz.sizeOf240
  v46 := Tryz.zeroValue240
  t50 := Tryz.underlying163
  a50 := Tryz.isAgg163
  z50 := Tryz.sizeOf163
  v50 := Tryz.zeroValue163
  t53 := Tryz.underlying247
  a53 := Tryz.isAgg247
  z53 := Tryz.sizeOf247
  v53 := Tryz.zeroValue247
  t55 := Tryz.underlying110
  a55 := Tryz.isAgg110
  z55 := Tryz.sizeOf110
  v55 := Tryz.zeroValue110
  t66 := Tryz.underlying255
  a66 := Tryz.isAgg255
  z66 := Tryz.sizeOf255
  v66 := Tryz.zeroValue255
  t70 := Tryz.underlying259
  a70 := Tryz.isAgg259
  z70 := Tryz.sizeOf259
  v70 := Tryz.zeroValue259
  t76 := Tryz.underlying265
  a76 := Tryz.isAgg265
  z76 := Tryz.sizeOf265
  v76 := Tryz.zeroValue265
  t77 := Tryz.underlying266
  a77 := Tryz.isAgg266
  z77 := Tryz.sizeOf266
  v77 := Tryz.zeroValue266 }
end Go.Proofs.YtkmlkpfabkhleaaGreat

/- Iwfq: tags sorted by a key. -/
namespace Go.Proofs.YtkmlkpfabkhleaaGreat
open Go.RowKit Go.Shelf Go.Lib Go.Sort
open SP

/-- The tags of a list. -/
abbrev Sub (L : List Tg) : Type := { t : Tg // t ∈ L }
theorem flatK_sub {L : List Tg} [Inhabited (Sub L)] (d : Array (Sub L)) : (flatK (fun x : Sub L => tagC x.1) 3 d).toList = flat tagC (d.toList.map (·.1)) := by
  apply List.ext_getElem?
  intro t
  by_cases ht : t < d.size * 3
  · have hi : t / 3 < d.size := by omega
    have h1 : (flatK (fun x : Sub L => tagC x.1) 3 d).toList[t]? = some ((flatK (fun x : Sub L => tagC x.1) 3 d)[t]!) := by
      rw [Array.getElem?_toList, getElem!_pos (flatK (fun x : Sub L => tagC x.1) 3 d) t (by simpa using ht)]
      exact Array.getElem?_eq_getElem _
    have h0 : (d.toList.map (·.1))[t / 3]? = some d[t / 3]!.1 := by
      rw [List.getElem?_map, Array.getElem?_toList, getElem!_pos d (t / 3) hi, Array.getElem?_eq_getElem hi]
      rfl
    have h2 := flat_get tagC_len (d.toList.map (·.1)) (t / 3) (t % 3) d[t / 3]!.1 h0 (Nat.mod_lt _ (by omega))
    rw [h1, get_flatK _ _ _ _ ht]
    rw [show t / 3 * 3 + t % 3 = t from by omega] at h2
    rw [h2]
    have h3 : t % 3 < (tagC d[t / 3]!.1).length := by rw [tagC_len]; exact Nat.mod_lt _ (by omega)
    rw [List.getElem?_eq_getElem h3, getElem!_pos (tagC d[t / 3]!.1) (t % 3) h3]
  · rw [List.getElem?_eq_none (by simp; omega), List.getElem?_eq_none (by rw [flat_length tagC_len]; simp; omega)]

def cfK (key : Tg → Int) (x y : Tg) : Int := orZ (cmpZ (key x) (key y)) (cmpZ x.f y.f)
theorem lt_cfK (key : Tg → Int) {L : List Tg} (x y : Sub L) : ltOf (fun a b : Sub L => cfK key a.1 b.1) x y = ltK key x.1 y.1 := by
  unfold ltOf cfK orZ cmpZ ltK
  rw [decide_eq_decide]
  by_cases h1 : key x.1 < key y.1 <;> by_cases h2 : key y.1 < key x.1 <;> by_cases h3 : x.1.f < y.1.f <;> by_cases h4 : y.1.f < x.1.f <;> simp [h1, h2, h3, h4] <;> omega
theorem swoK (key : Tg → Int) (L : List Tg) : SWO (ltOf (fun a b : Sub L => cfK key a.1 b.1)) where
  irrefl x := by rw [lt_cfK]; exact ltK_irrefl key x.1
  trans x y z h1 h2 := by rw [lt_cfK] at *; exact ltK_trans h1 h2
  ntrans x y z h1 h2 := by rw [lt_cfK] at *; unfold ltK at *; simp only [decide_eq_false_iff_not] at *; omega
theorem pw_ne {l1 l2 : List Tg} (hp : l1.Perm l2) (h : l2.Pairwise (fun a b => a.f < b.f)) : l1.Pairwise (fun a b => a.f ≠ b.f) :=
  hp.symm.pairwise (h.imp fun hab => by omega) fun hab => hab.symm
theorem merge_srt {key : Tg → Int} {L : List Tg} (h : L.Pairwise (fun a b => a.f < b.f)) :
    (L.attach.mergeSort fun x y : Sub L => !(ltOf (fun a b : Sub L => cfK key a.1 b.1)) y x).map (·.1) = srtK key L := by
  have hperm : ((L.attach.mergeSort fun x y : Sub L => !(ltOf (fun a b : Sub L => cfK key a.1 b.1)) y x).map (·.1)).Perm L := by
    have := (List.mergeSort_perm L.attach (fun x y : Sub L => !(ltOf (fun a b : Sub L => cfK key a.1 b.1)) y x)).map (·.1)
    rwa [List.attach_map_subtype_val] at this
  refine sorted_eq (key := key) (hperm.trans (srtK_perm key L).symm) ?_ (srtK_sorted h)
  have hne := pw_ne hperm h
  rw [List.pairwise_map] at hne ⊢
  have hs := List.pairwise_mergeSort (le := fun x y : Sub L => !(ltOf (fun a b : Sub L => cfK key a.1 b.1)) y x) (fun a b c h1 h2 => by
      rw [Bool.not_eq_true'] at *
      rw [lt_cfK] at *
      unfold ltK at *
      simp only [decide_eq_false_iff_not] at *
      omega) (fun a b => by
      rw [Bool.or_eq_true, Bool.not_eq_true', Bool.not_eq_true', lt_cfK, lt_cfK]
      unfold ltK
      simp only [decide_eq_false_iff_not]
      omega) L.attach
  refine (hs.and hne).imp fun {a b} hab => ?_
  obtain ⟨h1, h2⟩ := hab
  rw [Bool.not_eq_true', lt_cfK] at h1
  exact ltK_or (fun e => h2 e.symm) (by rw [h1]; simp)

section
variable {W w w' : World} {R : List SP} {b rp ab kb : Nat} {m : List (Int × Acc)}
theorem Own.sortedT {g : Nat} {xs sp : List Value} {F : Array Value} {n : Nat} {os : Array Obj} {T : TypeId} (o : Own w (SP.blk g (.cells (xs ++ sp).toArray T (0, 0)) :: R)) (hF : F.size = xs.length) :
    Own (grow (putRow id (Sort.ahead w n) g 0 F) os) (SP.blk g (.cells (F.toList ++ sp).toArray T (0, 0)) :: R) := by
  have hb := o.blk
  have hlt := o.lt
  refine o.put ?_ (fun k hk hk2 => ?_)
  · have h1 : (grow (putRow id (Sort.ahead w n) g 0 F) os).heap[g]? = (putRow id (Sort.ahead w n) g 0 F).heap[g]? := by
      unfold grow
      show ((putRow id (Sort.ahead w n) g 0 F).heap ++ os)[g]? = _
      rw [Array.getElem?_append_left (by simpa [putRow, mapBlock, Sort.ahead] using hlt)]
    rw [h1]
    show (w.heap.modify g (onCells (putCells id 0 F)))[g]? = _
    rw [Array.getElem?_modify, if_pos rfl, hb]
    simp only [Option.map_some, onCells]
    congr 2
    apply Array.ext_getElem?
    intro k
    simp only [putCells, Array.getElem?_mapIdx, List.getElem?_toArray, Nat.zero_le, true_and, Nat.zero_add, Nat.sub_zero, id]
    by_cases hk : k < F.size
    · rw [List.getElem?_append_left (by omega), List.getElem?_append_left (by simpa using hk), List.getElem?_eq_getElem (by omega)]
      simp [hk]
    · rw [List.getElem?_append_right (by omega), List.getElem?_append_right (by simp; omega), hF]
      simp [hF ▸ hk, hF]
  · unfold grow
    show ((putRow id (Sort.ahead w n) g 0 F).heap ++ os)[k]? = _
    rw [Array.getElem?_append_left (by simpa [putRow, mapBlock, Sort.ahead] using hk2)]
    show (w.heap.modify g (onCells (putCells id 0 F)))[k]? = _
    rw [Array.getElem?_modify, if_neg (fun h => hk h.symm)]

set_option maxHeartbeats 1600000 in
theorem sortT_spec {key : Tg → Int} {a : Option Addr} {n c : Nat} {L : List Tg} {B : SP} (hok : L.Pairwise (fun a b => a.f < b.f)) (hne : L ≠ []) (hn : n = L.length) (hn2 : n ≤ 1000000)
    (hcmp : ∀ (w : World) (R' : List SP), Own w (B :: R') → ∀ x ∈ L, ∀ y ∈ L, Calls Tryz.prog 162 #[tagV x, tagV y, .pointer (some ⟨kb, 0, none⟩)] w (GRet (.int .i64 (cfK key x y)) w))
    (o : Own w (slc 128 3 a n c (flat tagC L) :: B :: R)) :
    Calls Tryz.prog 161 #[.slice a n c, .func (.func 162) #[] #[.pointer (some ⟨kb, 0, none⟩)]] w (Ret (.tuple #[]) (slc 128 3 a n c (flat tagC (srtK key L)) :: B :: R) w) := by
  subst hn
  rcases Own.slc.1 o with ⟨rfl, hz, rfl, hx, o1⟩ | ⟨g, sp, rfl, h1, h2, h3, h4, o1⟩
  · exact absurd (List.eq_nil_of_length_eq_zero hz) hne
  · obtain ⟨t0, ht0⟩ := List.exists_mem_of_ne_nil L hne
    haveI : Inhabited (Sub L) := ⟨⟨t0, ht0⟩⟩
    have eg : ∀ args w, (callFunc 162 args).run Tryz.prog w = .ok (.enter 162 args) w := enters_of Tryz.func162 (by kernel_rfl) rfl
    have hat : (L.attach.toArray.toList.map (·.1)) = L := by rw [List.toList_toArray, List.attach_map_subtype_val]
    have hsz0 : L.attach.toArray.size = L.length := by simp
    have hH : HoldsK (fun x : Sub L => tagC x.1) 3 w g 0 L.attach.toArray := by
      intro t ht
      have ht2 : t < L.length * 3 := by simpa using ht
      have hget : (flatK (fun x : Sub L => tagC x.1) 3 L.attach.toArray)[t]? = some ((flatK (fun x : Sub L => tagC x.1) 3 L.attach.toArray)[t]!) := by
        rw [getElem!_pos _ t ht]; exact Array.getElem?_eq_getElem ht
      rw [← Array.getElem?_toList, flatK_sub, hat] at hget
      refine ⟨?_, ?_⟩
      · rw [Nat.zero_add]
        exact Own.cell (T := 128) (vs := flat tagC L ++ sp) o1 t (by rw [List.getElem?_append_left (List.getElem?_eq_some_iff.1 hget).1]; exact hget)
      · exact Own.frozen (T := 128) (vs := flat tagC L ++ sp) o1 _
    have hlay : CmpLays Tryz.prog 162 #[.pointer (some ⟨kb, 0, none⟩)] (fun x : Sub L => tagC x.1) 3 (fun x y : Sub L => cfK key x.1 y.1) g 0 L.attach.toArray.size w := by
      intro m os dk hdk x y
      have hsz : (flatK (fun x : Sub L => tagC x.1) 3 dk).size = (flat tagC L).length := by
        rw [size_flatK, flat_length tagC_len, hdk, hsz0]
      have oS := Own.sortedT (F := flatK (fun x : Sub L => tagC x.1) 3 dk) (n := m) (os := os) o1 hsz
      exact (hcmp _ _ oS.drop x.1 x.2 y.1 y.2).mono fun e w' h => h
    have hcon := AnyQ.slices_SortFunc_total (P := Tryz.prog) Tryz.sortT 3 Tryz.isAgg128 Tryz.sizeOf128 (fun x : Sub L => tagC x.1) (fun _ => rfl) (fun x v hv => by simp [tagC] at hv; rcases hv with rfl | rfl | rfl <;> rfl) (fun x y : Sub L => cfK key x.1 y.1) (swoK key L) 162 #[.pointer (some ⟨kb, 0, none⟩)] g 0 c L.attach.toArray w eg hlay hH o1.lt (by rw [hsz0]; omega)
      (fun x y h1 h2 => by
        rw [lt_cfK] at h1 h2
        have hf : x.1.f = y.1.f := by
          unfold ltK at h1 h2
          simp only [decide_eq_false_iff_not] at h1 h2
          omega
        refine Subtype.ext ?_
        obtain ⟨i, hi⟩ := List.getElem?_of_mem x.2
        obtain ⟨j, hj⟩ := List.getElem?_of_mem y.2
        obtain ⟨i1, i2⟩ := List.getElem?_eq_some_iff.1 hi
        obtain ⟨j1, j2⟩ := List.getElem?_eq_some_iff.1 hj
        rcases Nat.lt_trichotomy i j with hlt | rfl | hlt
        · have := List.pairwise_iff_getElem.1 hok i j i1 j1 hlt
          rw [i2, j2] at this; omega
        · rw [← i2, ← j2]
        · have := List.pairwise_iff_getElem.1 hok j i j1 i1 hlt
          rw [i2, j2] at this; omega)
    rw [hsz0] at hcon
    change Calls Tryz.prog 161 _ _ _ at hcon
    refine hcon.mono ?_
    rintro e w' ⟨rfl, n, os, rfl⟩
    have hmg := merge_srt (key := key) hok
    have hsz : (flatK (fun x : Sub L => tagC x.1) 3 (L.attach.toArray.toList.mergeSort fun x y : Sub L => !(ltOf (fun x y : Sub L => cfK key x.1 y.1)) y x).toArray).size = (flat tagC L).length := by
      rw [size_flatK, flat_length tagC_len, List.size_toArray, List.length_mergeSort]
      simp
    have o2 := Own.sortedT (F := flatK (fun x : Sub L => tagC x.1) 3 (L.attach.toArray.toList.mergeSort fun x y : Sub L => !(ltOf (fun x y : Sub L => cfK key x.1 y.1)) y x).toArray) (n := n) (os := os) o1 hsz
    rw [flatK_sub, List.toList_toArray, List.toList_toArray, hmg] at o2
    refine ⟨rfl, Own.slc.2 (.inr ⟨g, sp, rfl, h1, h2, by rw [flat_length tagC_len, srtK_len], h4, o2⟩), ⟨rfl, rfl, rfl⟩⟩
end
end Go.Proofs.YtkmlkpfabkhleaaGreat

/- Iwfq: the flows sorted by a key of their tags. -/
namespace Go.Proofs.YtkmlkpfabkhleaaGreat
open Go.RowKit
open SP
section
variable {W w w' : World} {R : List SP} {b rp ab kb : Nat} {m : List (Int × Acc)}

theorem slc_srcT {e : TypeId} {size : Nat} {a : Option Addr} {n c : Nat} {xs : List Value} (h1 : ∀ u ∈ xs, u.oneCell' = true) (o : Own w (slc e size a n c xs :: R)) : IsSrc w (.slice a n c) size n xs := by
  have hl := o.slc_len.1
  refine ⟨a, c, rfl, hl, h1, ?_⟩
  rcases Own.slc.1 o with ⟨_, h, _⟩ | ⟨g, sp, rfl, _, _, _, _, o1⟩
  · exact .inl h
  · refine .inr ⟨_, rfl, fun j u hu => ?_⟩
    have hadd : (⟨g, 0, none⟩ : Addr).add j = ⟨g, j, none⟩ := by unfold Addr.add; split <;> simp_all
    rw [hadd]
    exact Own.cell o1 j (by rw [List.getElem?_append_left (List.getElem?_eq_some_iff.1 hu).1]; exact hu)
theorem tagC_one (S : List Tg) : ∀ u ∈ flat tagC S, u.oneCell' = true := by
  intro u hu
  obtain ⟨s, _, hs⟩ := List.mem_flatMap.1 hu
  unfold tagC at hs
  simp at hs
  rcases hs with rfl | rfl | rfl <;> rfl
set_option maxHeartbeats 1600000 in
set_option maxRecDepth 100000 in
theorem cloneTg_spec {a : Option Addr} {n c : Nat} {S : List Tg} (hn : n ≤ 1000) (o : Own w (slc 128 3 a n c (flat tagC S) :: R)) :
    Calls Tryz.prog 160 #[.slice a n c] w fun e w' => ∃ a' c', Ret (.slice a' n c') (slc 128 3 a' n c' (flat tagC S) :: slc 128 3 a n c (flat tagC S) :: R) w e w' := by
  have hnil := fun (w : World) (a : Option Addr) (n c : Nat) => Lib.run_eql_slice_nil w 58 128 a n c 0 0 Tryz.underlying58
  rcases Own.slc.1 o with ⟨rfl, rfl, rfl, hS, o1⟩ | ⟨g, sp, rfl, h1, h2, h3, h4, o1⟩
  · have o2 := Own.slc_nil (e := 128) (size := 3) o
    rw [← hS] at o2
    clear hS
    go_enter Tryz.func160, Tryz.ntmps160
    go_wp2
    go_ret
    exact ⟨none, 0, rfl, o2, Calm.refl w⟩
  · clear o1 h1 h2 h3 h4 sp
    have oZ := slc_zero (e := 128) (size := 3) (o.alloc (.cells #[] 128))
    have hsrc := slc_srcT (tagC_one S) (oZ.up 1)
    go_enter Tryz.func160, Tryz.ntmps160
    go_wp2_with (at_builtin; refine wpList_append_src rfl _ _ rfl Tryz.tagT rfl oZ rfl hsrc (by unfold maxLen; omega) (by omega) ?k1)
    case k1 =>
      intro a' c' w6 o6 k6
      go_wp2
      go_ret
      exact ⟨a', c', rfl, o6, ⟨k6.os, k6.tape, k6.output⟩⟩

theorem Tryz.intIw : ElemT Tryz.prog 22 3 1 8 := ElemT.mk' Tryz.underlying22 (z := .int .i64 0) (by kernel_rfl) (by kernel_rfl) (by omega)
def flI (L : List Tg) : List Value := (L.map (·.f)).map (Value.int .i64)
theorem flI_snoc (L : List Tg) (i : Nat) (t : Tg) (h : L[i]? = some t) : flI (L.take (i + 1)) = flI (L.take i) ++ [.int .i64 t.f] := by
  unfold flI
  rw [List.take_add_one, h]
  simp
def SrtRel (M : List Tg) (a1 : Option Addr) (c1 : Nat) (B : SP) (R : List SP) (w : World) (v5 v15 : Value) (wr : World) : Prop :=
  ∃ (i : Nat) (a5 : Option Addr) (c5 : Nat), v15 = .int .i64 (i : Int) ∧ i ≤ M.length ∧ v5 = .slice a5 i c5 ∧
    Own wr (slc 3 1 a5 i c5 (flI (M.take i)) :: slc 128 3 a1 M.length c1 (flat tagC M) :: B :: R) ∧ Calm w wr
def SortedPost (M : List Tg) (a : Option Addr) (n c : Nat) (L : List Tg) (Q : SP) (R : List SP) (w : World) (e : Ending) (w' : World) : Prop :=
  ∃ (a' : Option Addr) (c' : Nat), Ret (.slice a' n c') (slc 3 1 a' n c' (flI M) :: slc 128 3 a n c (flat tagC L) :: Q :: R) w e w'
set_option maxHeartbeats 3200000 in
set_option maxRecDepth 100000 in
theorem sorted_spec {key : Tg → Int} {fn : Nat} {bs : Array Value} {a : Option Addr} {n c : Nat} {L : List Tg} {Q : SP} (hok : L.Pairwise (fun a b => a.f < b.f)) (hne : L ≠ []) (hn : n = L.length) (hn2 : n ≤ 1000)
    (hcmp : ∀ (kb : Nat) (w : World) (R' : List SP), Own w (boxK kb (.func (.func fn) bs #[]) :: Q :: R') → ∀ x ∈ L, ∀ y ∈ L, Calls Tryz.prog 162 #[tagV x, tagV y, .pointer (some ⟨kb, 0, none⟩)] w (GRet (.int .i64 (cfK key x y)) w))
    (o : Own w (slc 128 3 a n c (flat tagC L) :: Q :: R)) :
    Calls Tryz.prog 125 #[.slice a n c, .func (.func fn) bs #[]] w (SortedPost (srtK key L) a n c L Q R w) := by
  have oA : Own (w.alloc (.cells #[.func (.func fn) bs #[]] 191)) (boxK w.heap.size (.func (.func fn) bs #[]) :: slc 128 3 a n c (flat tagC L) :: Q :: R) := o.alloc _
  have hcl := cloneTg_spec hn2 (oA.re [1])
  have HN := Lib.hid hn
  have hM := srtK_len key L
  obtain ⟨M, hMM⟩ : ∃ M, srtK key L = M := ⟨_, rfl⟩
  rw [hMM] at hM
  have HM := Lib.hid hM
  have HMM := Lib.hid hMM
  rw [hMM]
  clear hn hM hMM
  go_enter Tryz.func125, Tryz.ntmps125
  go_wp2_with fail
  refine hcl.mono ?_
  rintro e1 w1 ⟨a1, c1, rfl, o1, k1⟩
  clear hcl
  have oS : Own w1 (slc 128 3 a1 n c1 (flat tagC L) :: st [boxK w.heap.size (.func (.func fn) bs #[]), Q] :: slc 128 3 a n c (flat tagC L) :: R) := Own.swap (Own.st.2 (o1.re [2, 3, 0, 1]))
  have hsr := sortT_spec (key := key) (kb := w.heap.size) (c := c1) hok hne HN.out (by omega) (fun w R' o => hcmp _ w R' (Own.st.1 o)) oS
  rw [HMM.out] at hsr
  generalize w.heap.size = kb at *
  have b0 := Own.cell (T := 191) (vs := [.func (.func fn) bs #[]]) (o1.up 2) 0
  go_wp2_with fail
  refine hsr.mono ?_
  rintro e2 w2 ⟨rfl, o2, k2⟩
  have hnM : n = M.length := by rw [HN.out, HM.out]
  have hT : SrtRel M a1 c1 (st [boxK kb (.func (.func fn) bs #[]), Q]) (slc 128 3 a n c (flat tagC L) :: R) w (.slice none 0 0) (.int .i64 0) w2 := ⟨0, none, 0, rfl, Nat.zero_le _, rfl, Own.slc_nil (by rw [← hnM]; exact o2), (qcalm_alloc (Calm.refl w)).trans (k1.trans k2)⟩
  have HNM := Lib.hid hnM
  clear hsr oS o1 o2 k1 k2 oA o b0 hnM
  go_wp2
  go_loopw [5, 15] (fun v5 v15 wr => SrtRel M a1 c1 (st [boxK kb (.func (.func fn) bs #[]), Q]) (slc 128 3 a n c (flat tagC L) :: R) w v5 v15 wr) (fun _ v _ => n - (Lib.intOf v).toNat)
  case atStart => exact hT
  case round =>
    clear hT
    obtain ⟨i, a5, c5, rfl, hi, rfl, oR, kR⟩ := hrel
    by_cases hlt : i < n
    · obtain ⟨t, ht⟩ : ∃ t, M[i]? = some t := ⟨_, List.getElem?_eq_getElem (by have := HNM.out; omega)⟩
      obtain ⟨g, rfl, hc, _, hgl⟩ := (oR.up 1).slc_cell (by have := HNM.out; omega)
      have d0 := hc (i * 3 + 0) _ (flat_get tagC_len M i 0 t ht (by omega))
      rw [Nat.add_zero] at d0
      have d1 := hc (i * 3 + 1) _ (flat_get tagC_len M i 1 t ht (by omega))
      have d2 := hc (i * 3 + 2) _ (flat_get tagC_len M i 2 t ht (by omega))
      change wr.cell? ⟨g, i * 3, none⟩ = some (.int .i64 t.f) at d0
      change wr.cell? ⟨g, i * 3 + 1, none⟩ = some (.int .i64 t.w) at d1
      change wr.cell? ⟨g, i * 3 + 2, none⟩ = some (.int .i64 t.s) at d2
      clear hc
      have HSN := Lib.hid (flI_snoc M i t ht)
      have hn2' : (n : Int) ≤ 1000 := by omega
      have oA := (oR.alloc (.cells #[.int .i64 t.f, .int .i64 t.w, .int .i64 t.s] 128)).drop
      have oB := oA.alloc (.cells #[.int .i64 t.f] 3)
      simp only [World.size_alloc] at oB
      clear ht
      go_wp2_with (at_builtin; refine wpList_append_slc rfl _ _ rfl Tryz.intIw rfl (oB.up 1) ⟨wr.heap.size + 1, 0, none⟩ 1 1 [.int .i64 t.f] rfl rfl ?c1 ?c2 ?c3 ?c4 ?c5)
      case c1 => exact Own.news (T := 3) oB
      case c2 => intro u hu; simp at hu; rcases hu with rfl; rfl
      case c3 => unfold maxLen; omega
      case c4 => omega
      case c5 =>
      intro a6 c6 w6 o6 k6
      go_wp2
      go_roundw
      case rel => exact ⟨i + 1, a6, c6, by go_num, by have := HNM.out; omega, rfl, by rw [HSN.out]; exact o6.re [1] 1, kR.trans ⟨k6.os, k6.tape, k6.output⟩⟩
      case measure => simp [Lib.intOf]; omega
    · have hin : i = n := by have := HNM.out; omega
      subst hin
      have hnM := HNM.out
      rw [hnM, List.take_length] at oR
      rw [← hnM] at oR
      clear hnM
      go_wp2
      go_ret
      exact ⟨a5, c5, rfl, (Own.st.1 (oR.re [2])).re [0, 3, 2, 4, 1] 2, kR⟩
end
end Go.Proofs.YtkmlkpfabkhleaaGreat

/- Iwfq: which packets may be sent in place of others. -/
namespace Go.Proofs.YtkmlkpfabkhleaaGreat
open Go.RowKit
open SP
section
variable {W w w' : World} {R : List SP} {b rp ab : Nat} {m : List (Int × Acc)}

theorem Grw.drewN (w : World) (n : Nat) : Grw w (w.drewN n) := ⟨n, #[], by rw [Go.Sort.grow_empty]⟩
/-- Accounts within their bounds' range. -/
def AccOk (m : List (Int × Acc)) : Prop := ∀ f, (-1099511627776 ≤ (accO m f).1 ∧ (accO m f).1 ≤ 1099511627776) ∧ (0 ≤ (accO m f).2.1 ∧ (accO m f).2.1 ≤ 1099511627776) ∧ (0 ≤ (accO m f).2.2 ∧ (accO m f).2.2 ≤ 1099511627776)
theorem AccOk.lag (h : AccOk m) : LagOk m := fun f => (h f).1

set_option maxHeartbeats 1600000 in
set_option maxRecDepth 100000 in
theorem permitted_spec {k j len : Int} (hm : AccOk m) (h0 : 0 ≤ len) (h1 : len ≤ 4096) (o : Own w (IwC b rp ab :: mpI accI ab m :: R)) :
    Calls Tryz.prog 128 #[.pointer (some ⟨b, 0, none⟩), .int .i64 k, .int .i64 j, .int .i64 len] w (GRet (.bool (permI m k j len)) w) := by
  have hlk := fun n => lookI ((o.drewN n).up 1) k
  have hlj := fun n => lookI ((o.drewN n).up 1) j
  have c1 := o.cell 1
  have cl := o.celLt
  have hk := hm k
  have hj := hm j
  unfold permI
  unfold accI at hlk hlj
  generalize accO m k = A at *
  generalize accO m j = B at *
  obtain ⟨x, y, z⟩ := A
  obtain ⟨x2, y2, z2⟩ := B
  dsimp only at *
  have f0 := fun w => (Tryz.fieldI (.int .i64 x) (.int .i64 y) (.int .i64 z) w).1
  have f1 := fun w => (Tryz.fieldI (.int .i64 x) (.int .i64 y) (.int .i64 z) w).2.1
  have g0 := fun w => (Tryz.fieldI (.int .i64 x2) (.int .i64 y2) (.int .i64 z2) w).1
  have g2 := fun w => (Tryz.fieldI (.int .i64 x2) (.int .i64 y2) (.int .i64 z2) w).2.2
  by_cases hkj : k = j
  · have e : (k == j) = true := by simpa using hkj
    have e2 : decide (k = j) = true := by simpa using hkj
    rw [e2]
    clear hkj e2
    go_enter Tryz.func128, Tryz.ntmps128
    go_wp2
    go_quiet (fail)
    go_wp2
    go_ret
    exact ⟨rfl, Grw.drewN w _⟩
  · have e : (k == j) = false := by simpa using hkj
    have e2 : decide (k = j) = false := by simpa using hkj
    rw [e2]
    clear hkj e2
    cases d1 : decide (x + len ≤ y) with
    | false =>
      go_enter Tryz.func128, Tryz.ntmps128
      go_wp2
      go_quiet (fail)
      go_wp2
      go_ret
      exact ⟨rfl, Grw.drewN w _⟩
    | true =>
      obtain ⟨D, hD⟩ : ∃ D, decide (-z2 ≤ x2 - len) = D := ⟨_, rfl⟩
      rw [hD]
      go_enter Tryz.func128, Tryz.ntmps128
      go_wp2
      go_quiet (fail)
      go_wp2
      go_ret
      exact ⟨rfl, Grw.drewN w _⟩
end
end Go.Proofs.YtkmlkpfabkhleaaGreat

/- Drawn regions whose operations all give values that can be named beforehand. -/
namespace Go.Proofs.YtkmlkpfabkhleaaGreat
open Go.RowKit
open SP
/-- What has been done gives these values. -/
def Vals (f : Nat → Value) (L : Nat → Bool) (v : Nat → Value) : Prop := ∀ i, L i = true → v i = f i
theorem Vals.no {f : Nat → Value} {v : Nat → Value} : Vals f (fun _ => false) v := fun _ h => (Bool.false_ne_true h).elim
theorem Vals.put {f : Nat → Value} {L : Nat → Bool} {v : Nat → Value} (h : Vals f L v) (i : Nat) {x : Value} (hx : x = f i) : Vals f (dIns L i) (dUpd v i x) := fun j hj => by
  unfold dUpd
  split
  · rename_i e; rw [e]; exact hx
  · rename_i e
    unfold dIns at hj
    rw [if_neg e] at hj
    exact h j hj
/-- The same, where of some nothing is said. -/
def OVals (f : Nat → Option Value) (L : Nat → Bool) (v : Nat → Value) : Prop := ∀ i x, f i = some x → L i = true → v i = x
theorem OVals.no {f : Nat → Option Value} {v : Nat → Value} : OVals f (fun _ => false) v := fun _ _ _ h => (Bool.false_ne_true h).elim
theorem OVals.put {f : Nat → Option Value} {L : Nat → Bool} {v : Nat → Value} (h : OVals f L v) (i : Nat) {x : Value} (hx : ∀ y, f i = some y → x = y) : OVals f (dIns L i) (dUpd v i x) := fun j y hy hj => by
  unfold dUpd
  split
  · rename_i e; subst e; exact hx y hy
  · rename_i e
    unfold dIns at hj
    rw [if_neg e] at hj
    exact h j y hy hj
theorem some_eq {x y : Value} (h : some x = some y) : x = y := Option.some.inj h
end Go.Proofs.YtkmlkpfabkhleaaGreat

/- Drawn regions with guards that are decided beforehand. -/
namespace Go.Proofs.YtkmlkpfabkhleaaGreat
open Go.RowKit
open SP
section
variable {P : Program} {ops : Array Oper} {Q : Exit → Act → World → Prop}
theorem wanted_at {A0 a : Act} {L : Nat → Bool} {v : Nat → Value} {o : Oper} {j : Nat} {want b : Bool} {t : Nat} (hA : Agree A0 ops L v a) (hg : o.guard = some (j, want)) (ht : (ops[j]?).bind (·.dst) = some t) (hl : L j = true) (hv : v j = .bool b) :
    Region.wanted o (yielded ops a.tmps) = (b == want) := by
  have h := hA.get j hl ht
  rw [hv] at h
  unfold Region.wanted
  rw [hg]
  show (yielded ops a.tmps j == some want) = _
  unfold yielded
  rw [ht]
  simp only [Option.bind_some]
  cases hx : a.tmps[t]? with
  | none => rw [hx] at h; cases h
  | some x =>
    rw [hx] at h
    have : x = .bool b := h
    subst this
    simp
theorem DrawStep.run {A0 : Act} {Inv : (Nat → Bool) → (Nat → Value) → World → Prop} {i : Nat} {o : Oper} {j : Nat} {want : Bool} {t : Nat} (hg : o.guard = some (j, want)) (ht : (ops[j]?).bind (·.dst) = some t)
    (hj : (o.after.any fun e => decide (e.on = j) && Region.binds .any e) = true) (hv : ∀ L v w, Inv L v w → L j = true → v j = .bool want)
    (h : ∀ (L : Nat → Bool) (v : Nat → Value) (a : Act) (w : World), L i = false → (∀ e ∈ o.after, Region.binds .any e = true → L e.on = true) → Agree A0 ops L v a → Inv L v w →
      ∀ K' : Act → World → Prop, Shut (∀ x w', Inv (dIns L i) (dUpd v i x) w' → K' (a.put o.dst x) w') → Oper.wp P o a w K' Q) : DrawStep P ops Q A0 Inv i o := by
  intro L v a w h1 h2 h3 h4 K' hK
  rw [Array.any_eq_true'] at hj
  obtain ⟨e, he, hb⟩ := hj
  rw [Bool.and_eq_true, decide_eq_true_eq] at hb
  have hl : L j = true := hb.1 ▸ h2 e he hb.2
  rw [if_pos (by rw [wanted_at h3 hg ht hl (hv L v w h4 hl)]; simp)]
  exact h L v a w h1 h2 h3 h4 K' hK
theorem DrawStep.skip {A0 : Act} {Inv : (Nat → Bool) → (Nat → Value) → World → Prop} {i : Nat} {o : Oper} {j : Nat} {want : Bool} {t : Nat} (hg : o.guard = some (j, want)) (ht : (ops[j]?).bind (·.dst) = some t)
    (hj : (o.after.any fun e => decide (e.on = j) && Region.binds .any e) = true) (hv : ∀ L v w, Inv L v w → L j = true → v j = .bool (!want))
    (hi : ∀ L v w, L i = false → Inv L v w → Inv (dIns L i) (dUpd v i undef) w) : DrawStep P ops Q A0 Inv i o := by
  intro L v a w h1 h2 h3 h4 K' hK
  rw [Array.any_eq_true'] at hj
  obtain ⟨e, he, hb⟩ := hj
  rw [Bool.and_eq_true, decide_eq_true_eq] at hb
  have hl : L j = true := hb.1 ▸ h2 e he hb.2
  rw [if_neg (by rw [wanted_at h3 hg ht hl (hv L v w h4 hl)]; cases want <;> decide)]
  exact hK.out _ _ (hi L v w h1 h4)
theorem DrawStep.skipU {A0 : Act} {Inv : (Nat → Bool) → (Nat → Value) → World → Prop} {i : Nat} {o : Oper} {j : Nat} {want : Bool} {t : Nat} (hg : o.guard = some (j, want)) (ht : (ops[j]?).bind (·.dst) = some t)
    (hj : (o.after.any fun e => decide (e.on = j) && Region.binds .any e) = true) (hv : ∀ L v w, Inv L v w → L j = true → v j = undef)
    (hi : ∀ L v w, L i = false → Inv L v w → Inv (dIns L i) (dUpd v i undef) w) : DrawStep P ops Q A0 Inv i o := by
  intro L v a w h1 h2 h3 h4 K' hK
  rw [Array.any_eq_true'] at hj
  obtain ⟨e, he, hb⟩ := hj
  rw [Bool.and_eq_true, decide_eq_true_eq] at hb
  have hl : L j = true := hb.1 ▸ h2 e he hb.2
  have hw : Region.wanted o (yielded ops a.tmps) = false := by
    have h := h3.get j hl ht
    rw [hv L v w h4 hl] at h
    unfold Region.wanted
    rw [hg]
    show (yielded ops a.tmps j == some want) = _
    unfold yielded
    rw [ht]
    simp only [Option.bind_some]
    cases hx : a.tmps[t]? with
    | none => rfl
    | some x =>
      rw [hx] at h
      have : x = undef := h
      subst this
      rfl
  rw [if_neg (by rw [hw]; decide)]
  exact hK.out _ _ (hi L v w h1 h4)
end
end Go.Proofs.YtkmlkpfabkhleaaGreat

/- Drawn regions that make one struct and store it last. -/
namespace Go.Proofs.YtkmlkpfabkhleaaGreat
open Go.RowKit
open SP
/-- The struct of a region: not made yet, made (cells zs), stored (cells ys). -/
def Pb (la ls : Bool) (v : Value) (T : TypeId) (zs ys : List Value) : SP :=
  st [pu (ls = true → la = true), if la = true then ex fun (g : Nat) => st [pu (v = .pointer (some ⟨g, 0, none⟩)), cel g T (if ls = true then ys else zs)] else pu True]
section
variable {w w' : World} {R : List SP} {v : Value} {T : TypeId} {zs ys : List Value}
theorem Pb.no (o : Own w R) : Own w (Pb false false v T zs ys :: R) := by
  unfold Pb
  rw [if_neg Bool.false_ne_true]
  exact Own.st.2 (Own.pu.2 ⟨fun h => h, Own.pu.2 ⟨trivial, o⟩⟩)
theorem Pb.new {ls : Bool} (o : Own w (Pb false ls v T zs ys :: R)) : Own (w.alloc (.cells zs.toArray T)) (Pb true ls (.pointer (some ⟨w.heap.size, 0, none⟩)) T zs ys :: R) := by
  unfold Pb at o ⊢
  obtain ⟨h, o⟩ := Own.pu.1 (Own.st.1 o)
  have hls : ls = false := by
    cases ls with
    | false => rfl
    | true => exact absurd (h rfl) Bool.false_ne_true
  subst hls
  rw [if_neg Bool.false_ne_true] at o
  rw [if_pos rfl, if_neg Bool.false_ne_true]
  exact Own.st.2 (Own.pu.2 ⟨fun _ => rfl, Own.ex.2 ⟨w.heap.size, Own.st.2 (Own.pu.2 ⟨rfl, (Own.pu.1 o).2.alloc _⟩)⟩⟩)
theorem Pb.val (o : Own w (Pb true false v T zs ys :: R)) : ∃ g : Nat, v = .pointer (some ⟨g, 0, none⟩) ∧ Own w (cel g T zs :: R) := by
  unfold Pb at o
  obtain ⟨_, o⟩ := Own.pu.1 (Own.st.1 o)
  rw [if_pos rfl, if_neg Bool.false_ne_true] at o
  obtain ⟨g, o⟩ := Own.ex.1 o
  obtain ⟨h, o⟩ := Own.pu.1 (Own.st.1 o)
  exact ⟨g, h, o⟩
theorem Pb.set {g : Nat} (o : Own w (cel g T ys :: R)) : Own w (Pb true true (.pointer (some ⟨g, 0, none⟩)) T zs ys :: R) := by
  unfold Pb
  rw [if_pos rfl, if_pos rfl]
  exact Own.st.2 (Own.pu.2 ⟨fun _ => rfl, Own.ex.2 ⟨g, Own.st.2 (Own.pu.2 ⟨rfl, o⟩)⟩⟩)
theorem Pb.put {g : Nat} {l : Bool} (o : Own w (cel g T ys :: R)) (hl : l = true) (hv : v = .pointer (some ⟨g, 0, none⟩)) : Own w (Pb l true v T zs ys :: R) := by
  subst hl
  subst hv
  exact Pb.set o
theorem Pb.got (o : Own w (Pb true true v T zs ys :: R)) : ∃ g : Nat, v = .pointer (some ⟨g, 0, none⟩) ∧ Own w (cel g T ys :: R) := by
  unfold Pb at o
  obtain ⟨_, o⟩ := Own.pu.1 (Own.st.1 o)
  rw [if_pos rfl, if_pos rfl] at o
  obtain ⟨g, o⟩ := Own.ex.1 o
  obtain ⟨h, o⟩ := Own.pu.1 (Own.st.1 o)
  exact ⟨g, h, o⟩
end
end Go.Proofs.YtkmlkpfabkhleaaGreat

/- Iwfq: a packet sent. -/
namespace Go.Proofs.YtkmlkpfabkhleaaGreat
open Go.RowKit
open SP
section
variable {W w w' : World} {R : List SP} {b rp ab : Nat} {m : List (Int × Acc)} {reb : Int} {S S' : St}

theorem chRow8 {fn : Func} (h : fn.results = #[.cell 8 38, .tmp 9]) {tmps : Array Value} {p : Nat} {x y z : Int} {e : Int} (hp : tmps.getD 8 undef = .pointer (some ⟨p, 0, none⟩)) (he : tmps.getD 9 undef = .int .i64 e)
    (o : Own w (cel p 38 [.int .i64 x, .int .i64 y, .int .i64 z] :: R)) : (results fn tmps).run Tryz.prog w = .ok (.tuple #[chV ⟨x, y, z⟩, .int .i64 e]) w := by
  have c0 := o.cell 0
  have c1 := o.cell 1
  have c2 := o.cell 2
  rw [results_cell_tmp h, hp, he]
  unfold chV
  go_simp
abbrev choC (p : Nat) (x y z : Int) : SP := cel p 38 [.int .i64 x, .int .i64 y, .int .i64 z]
theorem choSet {p : Nat} {x y z : Int} (o : Own w (choC p 0 0 0 :: R)) : Own (((w.setCell ⟨p, 0, none⟩ (.int .i64 x)).setCell ⟨p, 1, none⟩ (.int .i64 y)).setCell ⟨p, 2, none⟩ (.int .i64 z)) (choC p x y z :: R) :=
  Own.setCell (T := 38) (vs := [.int .i64 x, .int .i64 y, .int .i64 0]) (Own.setCell (T := 38) (vs := [.int .i64 x, .int .i64 0, .int .i64 0]) (Own.setCell (T := 38) (vs := [.int .i64 0, .int .i64 0, .int .i64 0]) o 0 (.int .i64 x)) 1 (.int .i64 y)) 2 (.int .i64 z)

set_option maxHeartbeats 3200000 in
set_option maxRecDepth 100000 in
theorem serve_own {k len : Int} (haw : 0 ≤ S.aw ∧ S.aw ≤ 1152921504606846976) (hc : chargeR reb S k len = (0, S')) (o : Own w (IwC b rp ab :: SfqR rp reb S :: mpI accI ab m :: R)) :
    Calls Tryz.prog 129 #[.pointer (some ⟨b, 0, none⟩), .int .i64 k, .int .i64 k, .int .i64 len] w (Ret (.tuple #[chV ⟨k, k, 1⟩, .int .i64 0]) (IwC b rp ab :: SfqR rp reb S' :: mpI accI ab m :: R) w) := by
  have oA : Own (w.alloc (.cells #[.int .i64 0, .int .i64 0, .int .i64 0] 38)) (choC w.heap.size 0 0 0 :: IwC b rp ab :: SfqR rp reb S :: mpI accI ab m :: R) := o.alloc _
  have c0 := (oA.up 1).cell 0
  have cl := (oA.up 1).celLt
  have hq := sfqCharge_spec k len haw (oA.re [2])
  rw [hc] at hq
  clear hc
  go_enter Tryz.func129, Tryz.ntmps129
  go_wp2_with fail
  refine hq.mono ?_
  rintro e1 w1 ⟨rfl, o1, k1⟩
  clear hq
  have z0 := Own.cell (T := 38) (vs := [.int .i64 0, .int .i64 0, .int .i64 0]) (o1.up 1) 0
  have z1 := Own.cell (T := 38) (vs := [.int .i64 0, .int .i64 0, .int .i64 0]) (o1.up 1) 1
  have z2 := Own.cell (T := 38) (vs := [.int .i64 0, .int .i64 0, .int .i64 0]) (o1.up 1) 2
  have zf := Own.frozen (T := 38) (vs := [.int .i64 0, .int .i64 0, .int .i64 0]) (o1.up 1)
  have zl := Own.celLt (T := 38) (vs := [.int .i64 0, .int .i64 0, .int .i64 0]) (o1.up 1)
  have o5 := choSet (x := k) (y := k) (z := 1) (o1.up 1)
  go_wp2
  refine bodyPost_ret (v := .tuple #[chV ⟨k, k, 1⟩, .int .i64 0]) ?_ rfl ?_
  · exact chRow8 (p := w.heap.size) rfl rfl rfl o5
  · exact ⟨rfl, (o5.drop).re [1, 0], ⟨k1.os, k1.tape, k1.output⟩⟩

abbrev accP_ (p : Nat) (x y z : Int) : SP := cel p 143 [.int .i64 x, .int .i64 y, .int .i64 z]
def SvMid (w0 : World) (b rp ab : Nat) (reb : Int) (S' : St) (m : List (Int × Acc)) (A D : Acc) (R : List SP) (w : World) (v11 v12 : Value) (wc : World) : Prop :=
  ∃ p q : Nat, v11 = .pointer (some ⟨p, 0, none⟩) ∧ v12 = .pointer (some ⟨q, 0, none⟩) ∧
    Own wc (accP_ p A.1 A.2.1 A.2.2 :: accP_ q D.1 D.2.1 D.2.2 :: SfqR rp reb S' :: choC w0.heap.size 0 0 0 :: IwC b rp ab :: mpI accI ab m :: R) ∧ Calm w wc
def mvI (c s : Int) (a d : Acc) (x y : Int) (m : List (Int × Acc)) (L : Nat → Bool) : List (Int × Acc) :=
  if L 17 then mput (mput m c (x, a.2.1, a.2.2)) s (y, d.2.1, d.2.2) else if L 14 then mput m c (x, a.2.1, a.2.2) else m
def SvInv (b rp p q ab : Nat) (c s : Int) (a d : Acc) (x y : Int) (m : List (Int × Acc)) (R : List SP) (w : World) (L : Nat → Bool) (v : Nat → Value) (wc : World) : Prop :=
  Own wc (mpI accI ab (mvI c s a d x y m L) :: accP_ q y d.2.1 d.2.2 :: accP_ p x a.2.1 a.2.2 :: IwC b rp ab :: R) ∧ Calm w wc ∧
  ((L 0 = true → v 0 = .pointer (some ⟨b, 0, none⟩)) ∧ (L 1 = true → v 1 = .pointer (some ⟨b, 0, none⟩)) ∧ (L 2 = true → v 2 = .pointer (some ⟨b, 1, none⟩)) ∧ (L 3 = true → v 3 = .map (some ab)) ∧
  (L 4 = true → v 4 = .int .i64 c) ∧ (L 5 = true → v 5 = .pointer (some ⟨b, 0, none⟩)) ∧ (L 6 = true → v 6 = .pointer (some ⟨b, 0, none⟩)) ∧ (L 7 = true → v 7 = .pointer (some ⟨b, 1, none⟩)) ∧
  (L 8 = true → v 8 = .map (some ab)) ∧ (L 9 = true → v 9 = .int .i64 s) ∧ (L 10 = true → v 10 = .agg #[.int .i64 x, .int .i64 a.2.1, .int .i64 a.2.2]) ∧ (L 11 = true → v 11 = .agg #[.int .i64 y, .int .i64 d.2.1, .int .i64 d.2.2])) ∧
  (L 12 = true → ∃ born : Nat, v 12 = .tuple #[accI a, .int .i64 (born : Int)] ∧ (L 13 = true → v 13 = .int .i64 (born : Int)) ∧ (L 14 = false → BornAt m wc ab c born)) ∧
  (L 15 = true → ∃ born : Nat, v 15 = .tuple #[accI d, .int .i64 (born : Int)] ∧ (L 16 = true → v 16 = .int .i64 (born : Int)) ∧ (L 17 = false → BornAt (mput m c (x, a.2.1, a.2.2)) wc ab s born)) ∧
  (L 13 = true → L 12 = true) ∧ (L 14 = true → L 13 = true) ∧ (L 15 = true → L 14 = true) ∧ (L 16 = true → L 15 = true) ∧ (L 17 = true → L 16 = true)
set_option maxHeartbeats 6400000 in
set_option maxRecDepth 100000 in
theorem serve_pair {k j len : Int} (hkj : k ≠ j) (h0 : 0 ≤ len) (h1 : len ≤ 4096) (haw : 0 ≤ S.aw ∧ S.aw ≤ 1152921504606846976) (hc : chargeR reb S k len = (0, S')) {A D : Acc} (hk : mget m k = some A) (hj : mget m j = some D)
    (hA : -1099511627776 ≤ A.1 ∧ A.1 ≤ 1099511627776) (hD : -1099511627776 ≤ D.1 ∧ D.1 ≤ 1099511627776) (o : Own w (IwC b rp ab :: SfqR rp reb S :: mpI accI ab m :: R)) :
    Calls Tryz.prog 129 #[.pointer (some ⟨b, 0, none⟩), .int .i64 k, .int .i64 j, .int .i64 len] w (Ret (.tuple #[chV ⟨k, j, 5⟩, .int .i64 0]) (IwC b rp ab :: SfqR rp reb S' :: mpI accI ab (mput (mput m k (accP A len)) j (accP D (-len))) :: R) w) := by
  have oA : Own (w.alloc (.cells #[.int .i64 0, .int .i64 0, .int .i64 0] 38)) (choC w.heap.size 0 0 0 :: IwC b rp ab :: SfqR rp reb S :: mpI accI ab m :: R) := o.alloc _
  have c0 := (oA.up 1).cell 0
  have cl := (oA.up 1).celLt
  have hq := sfqCharge_spec k len haw (oA.re [2])
  rw [hc] at hq
  clear hc
  have e : (k == j) = false := by simpa using hkj
  have hAO : accO m k = A := by unfold accO; rw [hk]; rfl
  have hDO : accO m j = D := by unfold accO; rw [hj]; rfl
  have HK := Lib.hid hk
  have HJ := Lib.hid hj
  have HKJ := Lib.hid hkj
  clear hk hj hkj
  go_enter Tryz.func129, Tryz.ntmps129
  go_wp2_with fail
  refine hq.mono ?_
  rintro e1 w1 ⟨rfl, o1, k1⟩
  clear hq
  have x1 := (o1.up 2).cell 1
  have xl := (o1.up 2).celLt
  have hlk := fun (w : World) (R : List SP) (o : Own w (mpI accI ab m :: R)) => lookI o k
  have hlj := fun (w : World) (R : List SP) (o : Own w (mpI accI ab m :: R)) => lookI o j
  rw [hAO] at hlk
  rw [hDO] at hlj
  unfold accI at hlk hlj
  obtain ⟨a1, a2, a3⟩ := A
  obtain ⟨d1, d2, d3⟩ := D
  dsimp only at hlk hlj hA hD
  have HLK := Lib.hid hlk
  have HLJ := Lib.hid hlj
  clear hlk hlj hAO hDO
  have K1 : Calm w w1 := (qcalm_alloc (Calm.refl w)).trans k1
  go_upto_region 6 with fail
  go_cut [11, 12] (fun v11 v12 wc => SvMid w b rp ab reb S' m (a1, a2, a3) (d1, d2, d3) R w v11 v12 wc)
  case first =>
    refine wp_region_draws (fun L v wc => Own wc (Pb (L 12) (L 14) (v 12) 143 [.int .i64 0, .int .i64 0, .int .i64 0] [.int .i64 a1, .int .i64 a2, .int .i64 a3] :: Pb (L 13) (L 15) (v 13) 143 [.int .i64 0, .int .i64 0, .int .i64 0] [.int .i64 d1, .int .i64 d2, .int .i64 d3] :: SfqR rp reb S' :: choC w.heap.size 0 0 0 :: IwC b rp ab :: mpI accI ab m :: R) ∧ Calm w wc ∧ OVals (fun i => ([some (.pointer (some ⟨b, 0, none⟩)), some (.pointer (some ⟨b, 0, none⟩)), some (.pointer (some ⟨b, 1, none⟩)), some (.map (some ab)), some (.int .i64 k), some (.agg #[.int .i64 a1, .int .i64 a2, .int .i64 a3]), some (.pointer (some ⟨b, 0, none⟩)), some (.pointer (some ⟨b, 0, none⟩)), some (.pointer (some ⟨b, 1, none⟩)), some (.map (some ab)), some (.int .i64 j), some (.agg #[.int .i64 d1, .int .i64 d2, .int .i64 d3]), none, none, none, none] : List (Option Value)).getD i none) L v) (by kernel_rfl) (by kernel_rfl) (by kernel_rfl) ?h0 ?step ?fin
    case h0 => exact ⟨(Pb.no (Pb.no o1.drew)), qcalm_drew K1, OVals.no⟩
    case step =>
      refine ⟨DrawStep.mk rfl ?_, DrawStep.mk rfl ?_, DrawStep.mk rfl ?_, DrawStep.mk rfl ?_, DrawStep.mk rfl ?_, DrawStep.mk rfl ?_, DrawStep.mk rfl ?_, DrawStep.mk rfl ?_, DrawStep.mk rfl ?_, DrawStep.mk rfl ?_, DrawStep.mk rfl ?_, DrawStep.mk rfl ?_, DrawStep.mk rfl ?_, DrawStep.mk rfl ?_, DrawStep.mk rfl ?_, DrawStep.mk rfl ?_, trivial⟩
      all_goals intro L v actZ wc hL hd hA hI K' hK
      all_goals obtain ⟨oD, kD, hv⟩ := hI
      all_goals simp [Region.binds] at hd
      all_goals have HV := Lib.hid hv
      all_goals clear hv
      · have c0_ := hA.base 0 (by rfl)
        simp only [List.getElem?_toArray, List.getElem?_cons_zero, List.getElem?_cons_succ, Option.getD_some] at c0_
        go_simp
        exact hK.out (.pointer (some ⟨b, 0, none⟩)) _ ⟨oD, kD, HV.out.put 0 (fun _ h => some_eq h)⟩
      · have h0_ : L 0 = true := by simp [hd]
        have c30_ : actZ.tmps[30]?.getD undef = .pointer (some ⟨b, 0, none⟩) := (hA.get 0 h0_).trans (HV.out 0 _ rfl h0_)
        go_simp
        exact hK.out (.pointer (some ⟨b, 0, none⟩)) _ ⟨oD, kD, HV.out.put 1 (fun _ h => some_eq h)⟩
      · have h1_ : L 1 = true := by simp [hd]
        have c31_ : actZ.tmps[31]?.getD undef = .pointer (some ⟨b, 0, none⟩) := (hA.get 1 h1_).trans (HV.out 1 _ rfl h1_)
        go_simp
        exact hK.out (.pointer (some ⟨b, 1, none⟩)) _ ⟨oD, kD, HV.out.put 2 (fun _ h => some_eq h)⟩
      · have h2_ : L 2 = true := by simp [hd]
        have c32_ : actZ.tmps[32]?.getD undef = .pointer (some ⟨b, 1, none⟩) := (hA.get 2 h2_).trans (HV.out 2 _ rfl h2_)
        have u_ := (oD.up 4).cell 1
        go_simp
        exact hK.out (.map (some ab)) _ ⟨oD, kD, HV.out.put 3 (fun _ h => some_eq h)⟩
      · have c1_ := hA.base 1 (by rfl)
        simp only [List.getElem?_toArray, List.getElem?_cons_zero, List.getElem?_cons_succ, Option.getD_some] at c1_
        go_simp
        exact hK.out (.int .i64 k) _ ⟨oD, kD, HV.out.put 4 (fun _ h => some_eq h)⟩
      · have h3_ : L 3 = true := by simp [hd]
        have c33_ : actZ.tmps[33]?.getD undef = .map (some ab) := (hA.get 3 h3_).trans (HV.out 3 _ rfl h3_)
        have h4_ : L 4 = true := by simp [hd]
        have c34_ : actZ.tmps[34]?.getD undef = .int .i64 k := (hA.get 4 h4_).trans (HV.out 4 _ rfl h4_)
        have u_ := HLK.out _ _ (oD.up 5)
        go_simp
        exact hK.out (.agg #[.int .i64 a1, .int .i64 a2, .int .i64 a3]) _ ⟨oD, kD, HV.out.put 5 (fun _ h => some_eq h)⟩
      · have c0_ := hA.base 0 (by rfl)
        simp only [List.getElem?_toArray, List.getElem?_cons_zero, List.getElem?_cons_succ, Option.getD_some] at c0_
        go_simp
        exact hK.out (.pointer (some ⟨b, 0, none⟩)) _ ⟨oD, kD, HV.out.put 6 (fun _ h => some_eq h)⟩
      · have h6_ : L 6 = true := by simp [hd]
        have c36_ : actZ.tmps[36]?.getD undef = .pointer (some ⟨b, 0, none⟩) := (hA.get 6 h6_).trans (HV.out 6 _ rfl h6_)
        go_simp
        exact hK.out (.pointer (some ⟨b, 0, none⟩)) _ ⟨oD, kD, HV.out.put 7 (fun _ h => some_eq h)⟩
      · have h7_ : L 7 = true := by simp [hd]
        have c37_ : actZ.tmps[37]?.getD undef = .pointer (some ⟨b, 0, none⟩) := (hA.get 7 h7_).trans (HV.out 7 _ rfl h7_)
        go_simp
        exact hK.out (.pointer (some ⟨b, 1, none⟩)) _ ⟨oD, kD, HV.out.put 8 (fun _ h => some_eq h)⟩
      · have h8_ : L 8 = true := by simp [hd]
        have c38_ : actZ.tmps[38]?.getD undef = .pointer (some ⟨b, 1, none⟩) := (hA.get 8 h8_).trans (HV.out 8 _ rfl h8_)
        have u_ := (oD.up 4).cell 1
        go_simp
        exact hK.out (.map (some ab)) _ ⟨oD, kD, HV.out.put 9 (fun _ h => some_eq h)⟩
      · have c2_ := hA.base 2 (by rfl)
        simp only [List.getElem?_toArray, List.getElem?_cons_zero, List.getElem?_cons_succ, Option.getD_some] at c2_
        go_simp
        exact hK.out (.int .i64 j) _ ⟨oD, kD, HV.out.put 10 (fun _ h => some_eq h)⟩
      · have h9_ : L 9 = true := by simp [hd]
        have c39_ : actZ.tmps[39]?.getD undef = .map (some ab) := (hA.get 9 h9_).trans (HV.out 9 _ rfl h9_)
        have h10_ : L 10 = true := by simp [hd]
        have c40_ : actZ.tmps[40]?.getD undef = .int .i64 j := (hA.get 10 h10_).trans (HV.out 10 _ rfl h10_)
        have u_ := HLJ.out _ _ (oD.up 5)
        go_simp
        exact hK.out (.agg #[.int .i64 d1, .int .i64 d2, .int .i64 d3]) _ ⟨oD, kD, HV.out.put 11 (fun _ h => some_eq h)⟩
      · rw [hL] at oD
        go_simp
        exact hK.out _ _ ⟨Pb.new oD, qcalm_alloc kD, HV.out.put 12 (fun _ h => by cases h)⟩
      · have oD := oD.swap
        rw [hL] at oD
        go_simp
        exact hK.out _ _ ⟨(Pb.new oD).swap, qcalm_alloc kD, HV.out.put 13 (fun _ h => by cases h)⟩
      · have h12_ : L 12 = true := by simp [hd]
        have c11_ := hA.get 12 h12_
        have h5_ : L 5 = true := by simp [hd]
        have c35_ : actZ.tmps[35]?.getD undef = .agg #[.int .i64 a1, .int .i64 a2, .int .i64 a3] := (hA.get 5 h5_).trans (HV.out 5 _ rfl h5_)
        rw [h12_, hL] at oD
        obtain ⟨gN, hgN, oN⟩ := Pb.val oD
        rw [hgN] at c11_
        have hgN := Lib.hid hgN
        have n0_ := oN.cell 0
        have n1_ := oN.cell 1
        have n2_ := oN.cell 2
        have nf_ := oN.frozen
        have nl_ := oN.celLt
        go_simp
        have oY := ((oN.setCell 0 (.int .i64 a1)).setCell 1 (.int .i64 a2)).setCell 2 (.int .i64 a3)
        have oQ := Pb.put (l := L 12) (v := v 12) (zs := [.int .i64 0, .int .i64 0, .int .i64 0]) oY h12_ hgN.out
        exact hK.out undef _ ⟨oQ, qcalm_set (qcalm_set (qcalm_set kD)), HV.out.put 14 (fun _ h => by cases h)⟩
      · have h13_ : L 13 = true := by simp [hd]
        have c12_ := hA.get 13 h13_
        have h11_ : L 11 = true := by simp [hd]
        have c41_ : actZ.tmps[41]?.getD undef = .agg #[.int .i64 d1, .int .i64 d2, .int .i64 d3] := (hA.get 11 h11_).trans (HV.out 11 _ rfl h11_)
        have oD := oD.swap
        rw [h13_, hL] at oD
        obtain ⟨gN, hgN, oN⟩ := Pb.val oD
        rw [hgN] at c12_
        have hgN := Lib.hid hgN
        have n0_ := oN.cell 0
        have n1_ := oN.cell 1
        have n2_ := oN.cell 2
        have nf_ := oN.frozen
        have nl_ := oN.celLt
        go_simp
        have oY := ((oN.setCell 0 (.int .i64 d1)).setCell 1 (.int .i64 d2)).setCell 2 (.int .i64 d3)
        have oQ := Pb.put (l := L 13) (v := v 13) (zs := [.int .i64 0, .int .i64 0, .int .i64 0]) oY h13_ hgN.out
        exact hK.out undef _ ⟨oQ.swap, qcalm_set (qcalm_set (qcalm_set kD)), HV.out.put 15 (fun _ h => by cases h)⟩
    case fin =>
      rintro L v wc hall ⟨oD, kD, hv⟩
      rw [hall 12 (by decide), hall 14 (by decide)] at oD
      obtain ⟨gN, hgN, oN⟩ := Pb.got oD
      have oN := oN.swap
      rw [hall 13 (by decide), hall 15 (by decide)] at oN
      obtain ⟨gM, hgM, oM⟩ := Pb.got oN
      clear hv hall oD oN
      simp only [putAll, Act.put, List.setIfInBounds_toArray, List.set_cons_zero, List.set_cons_succ]
      go_wp2
      go_meet
      exact ⟨gN, gM, hgN, hgM, oM.swap, kD⟩
  case rest =>
    obtain ⟨p, q, rfl, rfl, oE, kE⟩ := hcut
    clear o1 k1 K1 x1 xl oA c0 cl o
    dsimp only at oE
    have x0 := oE.cell 0
    have xf := oE.frozen
    have xl := oE.celLt
    have w1_ := IntWalk.i64_in (a1 + len) (by omega)
    have w2_ := IntWalk.i64_in (d1 - len) (by omega)
    have oE1 := oE.setCell 0 (.int .i64 (a1 + len))
    have y0 := (oE1.up 1).cell 0
    have yf := (oE1.up 1).frozen
    have yl := (oE1.up 1).celLt
    have oE2 := (oE1.up 1).setCell 0 (.int .i64 (d1 - len))
    have z0 := oE2.cell 0
    have z1 := oE2.cell 1
    have z2 := oE2.cell 2
    have t0 := (oE2.up 1).cell 0
    have t1 := (oE2.up 1).cell 1
    have t2 := (oE2.up 1).cell 2
    have b1 := (oE2.up 4).cell 1
    have bl := (oE2.up 4).celLt
    have K2 := qcalm_set (x := ⟨q, 0, none⟩) (v := .int .i64 (d1 - len)) (qcalm_set (x := ⟨p, 0, none⟩) (v := .int .i64 (a1 + len)) kE)
    go_upto_region 9 with fail
    obtain ⟨x, hx⟩ : ∃ x, a1 + len = x := ⟨_, rfl⟩
    obtain ⟨y, hy⟩ : ∃ y, d1 - len = y := ⟨_, rfl⟩
    rw [hx, hy] at oE2 K2 ⊢
    have oB : Own _ (mpI accI ab m :: accP_ q y d2 d3 :: accP_ p x a2 a3 :: IwC b rp ab :: SfqR rp reb S' :: choC w.heap.size 0 0 0 :: R) := oE2.drew.re [5, 0, 1, 4]
    have kB := qcalm_drew K2
    have hgd : mget (mput m k (x, a2, a3)) j = some (d1, d2, d3) := by rw [mget_mput, if_neg (fun h => HKJ.out h.symm)]; exact HJ.out
    have HX := Lib.hid hx
    have HY := Lib.hid hy
    generalize hR2 : (SfqR rp reb S' :: choC w.heap.size 0 0 0 :: R) = R2 at *
    clear x0 xf xl y0 yf yl z0 z1 z2 t0 t1 t2 b1 bl oE oE1 oE2 K2 kE hx hy w1_ w2_
    refine wp_region_draws (fun L v wc => SvInv b rp p q ab k j (a1, a2, a3) (d1, d2, d3) x y m R2 w L v wc) (by kernel_rfl) (by kernel_rfl) (by kernel_rfl) ?h0 ?step ?fin
    case h0 =>
      have F : ∀ {p : Prop}, false = true → p := fun h => (Bool.false_ne_true h).elim
      skip
      exact ⟨oB, kB, ⟨F, F, F, F, F, F, F, F, F, F, F, F⟩, F, F, F, F, F, F, F⟩
    case step =>
      refine ⟨DrawStep.mk rfl ?_, DrawStep.mk rfl ?_, DrawStep.mk rfl ?_, DrawStep.mk rfl ?_, DrawStep.mk rfl ?_, DrawStep.mk rfl ?_, DrawStep.mk rfl ?_, DrawStep.mk rfl ?_, DrawStep.mk rfl ?_, DrawStep.mk rfl ?_, DrawStep.mk rfl ?_, DrawStep.mk rfl ?_, DrawStep.mk rfl ?_, DrawStep.mk rfl ?_, DrawStep.mk rfl ?_, DrawStep.mk rfl ?_, DrawStep.mk rfl ?_, DrawStep.mk rfl ?_, trivial⟩
      all_goals intro L v ac wc hL hd hA hI K' hK
      all_goals obtain ⟨oD, kD, ⟨f0, f1, f2, f3, f4, f5, f6, f7, f8, f9, f10, f11⟩, e12, e15, l13, l14, l15, l16, l17⟩ := hI
      all_goals simp [Region.binds] at hd
      · have c0 := hA.base 0 (by rfl)
        simp only [List.getElem?_toArray, List.getElem?_cons_zero, Option.getD_some] at c0
        go_simp
        exact hK.out _ _ ⟨oD, kD, ⟨fun _ => rfl, f1, f2, f3, f4, f5, f6, f7, f8, f9, f10, f11⟩, e12, e15, l13, l14, l15, l16, l17⟩
      · have c0 := (hA.get 0 hd).trans (f0 hd)
        go_simp
        exact hK.out _ _ ⟨oD, kD, ⟨f0, fun _ => rfl, f2, f3, f4, f5, f6, f7, f8, f9, f10, f11⟩, e12, e15, l13, l14, l15, l16, l17⟩
      · have c0 := (hA.get 1 hd).trans (f1 hd)
        go_simp
        exact hK.out _ _ ⟨oD, kD, ⟨f0, f1, fun _ => rfl, f3, f4, f5, f6, f7, f8, f9, f10, f11⟩, e12, e15, l13, l14, l15, l16, l17⟩
      · have c0 := (hA.get 2 hd).trans (f2 hd)
        have cc := (oD.up 3).cell 1
        go_simp
        exact hK.out _ _ ⟨oD, kD, ⟨f0, f1, f2, fun _ => rfl, f4, f5, f6, f7, f8, f9, f10, f11⟩, e12, e15, l13, l14, l15, l16, l17⟩
      · have c0 := hA.base 1 (by rfl)
        simp only [List.getElem?_toArray, List.getElem?_cons_zero, List.getElem?_cons_succ, Option.getD_some] at c0
        go_simp
        exact hK.out _ _ ⟨oD, kD, ⟨f0, f1, f2, f3, fun _ => rfl, f5, f6, f7, f8, f9, f10, f11⟩, e12, e15, l13, l14, l15, l16, l17⟩
      · have c0 := hA.base 0 (by rfl)
        simp only [List.getElem?_toArray, List.getElem?_cons_zero, Option.getD_some] at c0
        go_simp
        exact hK.out _ _ ⟨oD, kD, ⟨f0, f1, f2, f3, f4, fun _ => rfl, f6, f7, f8, f9, f10, f11⟩, e12, e15, l13, l14, l15, l16, l17⟩
      · have c0 := (hA.get 5 hd).trans (f5 hd)
        go_simp
        exact hK.out _ _ ⟨oD, kD, ⟨f0, f1, f2, f3, f4, f5, fun _ => rfl, f7, f8, f9, f10, f11⟩, e12, e15, l13, l14, l15, l16, l17⟩
      · have c0 := (hA.get 6 hd).trans (f6 hd)
        go_simp
        exact hK.out _ _ ⟨oD, kD, ⟨f0, f1, f2, f3, f4, f5, f6, fun _ => rfl, f8, f9, f10, f11⟩, e12, e15, l13, l14, l15, l16, l17⟩
      · have c0 := (hA.get 7 hd).trans (f7 hd)
        have cc := (oD.up 3).cell 1
        go_simp
        exact hK.out _ _ ⟨oD, kD, ⟨f0, f1, f2, f3, f4, f5, f6, f7, fun _ => rfl, f9, f10, f11⟩, e12, e15, l13, l14, l15, l16, l17⟩
      · have c0 := hA.base 2 (by rfl)
        simp only [List.getElem?_toArray, List.getElem?_cons_zero, List.getElem?_cons_succ, Option.getD_some] at c0
        go_simp
        exact hK.out _ _ ⟨oD, kD, ⟨f0, f1, f2, f3, f4, f5, f6, f7, f8, fun _ => rfl, f10, f11⟩, e12, e15, l13, l14, l15, l16, l17⟩
      · have c0 := hA.base 11 (by rfl)
        simp only [List.getElem?_toArray, List.getElem?_cons_zero, List.getElem?_cons_succ, Option.getD_some] at c0
        have cc := (oD.up 2).cell 0
        have cc1 := (oD.up 2).cell 1
        have cc2 := (oD.up 2).cell 2
        go_simp
        exact hK.out _ _ ⟨oD, kD, ⟨f0, f1, f2, f3, f4, f5, f6, f7, f8, f9, fun _ => rfl, f11⟩, e12, e15, l13, l14, l15, l16, l17⟩
      · have c0 := hA.base 12 (by rfl)
        simp only [List.getElem?_toArray, List.getElem?_cons_zero, List.getElem?_cons_succ, Option.getD_some] at c0
        have cc := (oD.up 1).cell 0
        have cc1 := (oD.up 1).cell 1
        have cc2 := (oD.up 1).cell 2
        go_simp
        exact hK.out _ _ ⟨oD, kD, ⟨f0, f1, f2, f3, f4, f5, f6, f7, f8, f9, f10, fun _ => rfl⟩, e12, e15, l13, l14, l15, l16, l17⟩
      · have c0 := (hA.get 3 hd.1).trans (f3 hd.1)
        have c4 := (hA.get 4 hd.2.1).trans (f4 hd.2.1)
        have n13 : L 13 = false := by cases h : L 13 with | false => rfl | true => rw [l13 h] at hL; cases hL
        have n14 : L 14 = false := by cases h : L 14 with | false => rfl | true => rw [l14 h] at n13; cases n13
        have n15 : L 15 = false := by cases h : L 15 with | false => rfl | true => rw [l15 h] at n14; cases n14
        have n16 : L 16 = false := by cases h : L 16 with | false => rfl | true => rw [l16 h] at n15; cases n15
        have n17 : L 17 = false := by cases h : L 17 with | false => rfl | true => rw [l17 h] at n16; cases n16
        have eM : mvI k j (a1, a2, a3) (d1, d2, d3) x y m L = m := by unfold mvI; rw [n17, n14]; rfl
        rw [eM] at oD
        obtain ⟨w2, born, hr, hB, o2, k2⟩ := run_mapEntry_mpI Tryz.underlying137 Tryz.underlying3 oD k HK.out
        have o3 : Own w2 (mpI accI ab (mvI k j (a1, a2, a3) (d1, d2, d3) x y m L) :: accP_ q y d2 d3 :: accP_ p x a2 a3 :: IwC b rp ab :: R2) := by rw [eM]; exact o2
        go_simp
        exact hK.out _ _ ⟨o3, kD.trans k2, ⟨f0, f1, f2, f3, f4, f5, f6, f7, f8, f9, f10, f11⟩, fun _ => ⟨born, rfl, fun h => (Bool.false_ne_true (n13.symm.trans h)).elim, fun _ => hB⟩, fun h => (Bool.false_ne_true (n15.symm.trans h)).elim, fun h => rfl, l14, l15, l16, l17⟩
      · obtain ⟨born, h12, h13, hB⟩ := e12 hd
        have c0 := (hA.get 12 hd).trans h12
        go_simp
        exact hK.out _ _ ⟨oD, kD, ⟨f0, f1, f2, f3, f4, f5, f6, f7, f8, f9, f10, f11⟩, fun _ => ⟨born, h12, fun _ => rfl, hB⟩, e15, fun _ => hd, fun h => rfl, l15, l16, l17⟩
      · obtain ⟨born, h12, h13, hB⟩ := e12 hd.2.2.2.1
        have c0 := (hA.get 3 hd.1).trans (f3 hd.1)
        have c1' := (hA.get 13 hd.2.1).trans (h13 hd.2.1)
        have c2 := (hA.get 10 hd.2.2.1).trans (f10 hd.2.2.1)
        have hd13 := hd.2.1
        have n15 : L 15 = false := by cases h : L 15 with | false => rfl | true => rw [l15 h] at hL; cases hL
        have n16 : L 16 = false := by cases h : L 16 with | false => rfl | true => rw [l16 h] at n15; cases n15
        have n17 : L 17 = false := by cases h : L 17 with | false => rfl | true => rw [l17 h] at n16; cases n16
        have eM : mvI k j (a1, a2, a3) (d1, d2, d3) x y m L = m := by unfold mvI; rw [n17, hL]; rfl
        rw [eM] at oD
        obtain ⟨w2, hr, o2, k2⟩ := run_entryStore_mpI (P := Tryz.prog) (t := 137) oD k (x, a2, a3) (hB hL)
        have o3 : Own w2 (mpI accI ab (mvI k j (a1, a2, a3) (d1, d2, d3) x y m (dIns L 14)) :: accP_ q y d2 d3 :: accP_ p x a2 a3 :: IwC b rp ab :: R2) := by
          have : mvI k j (a1, a2, a3) (d1, d2, d3) x y m (dIns L 14) = mput m k (x, a2, a3) := by unfold mvI; rw [show dIns L 14 17 = L 17 from rfl, n17]; rfl
          rw [this]; exact o2
        have hr' : (Instr.entryStore 137 (.map (some ab)) (.int .i64 (born : Int)) (.agg #[.int .i64 x, .int .i64 a2, .int .i64 a3])).run Tryz.prog wc = .ok () w2 := hr
        go_simp
        exact hK.out undef _ ⟨o3, kD.trans k2, ⟨f0, f1, f2, f3, f4, f5, f6, f7, f8, f9, f10, f11⟩, fun h => ⟨born, h12, h13, fun h => (Bool.false_ne_true h.symm).elim⟩, fun h => (Bool.false_ne_true (n15.symm.trans h)).elim, l13, fun _ => hd13, fun h => rfl, l16, l17⟩
      · have c0 := (hA.get 8 hd.1).trans (f8 hd.1)
        have c4 := (hA.get 9 hd.2.1).trans (f9 hd.2.1)
        have h14 := hd.2.2.1
        have n16 : L 16 = false := by cases h : L 16 with | false => rfl | true => rw [l16 h] at hL; cases hL
        have n17 : L 17 = false := by cases h : L 17 with | false => rfl | true => rw [l17 h] at n16; cases n16
        have eM : mvI k j (a1, a2, a3) (d1, d2, d3) x y m L = mput m k (x, a2, a3) := by unfold mvI; rw [n17, h14]; rfl
        rw [eM] at oD
        obtain ⟨w2, born, hr, hB, o2, k2⟩ := run_mapEntry_mpI Tryz.underlying137 Tryz.underlying3 oD j hgd
        have o3 : Own w2 (mpI accI ab (mvI k j (a1, a2, a3) (d1, d2, d3) x y m L) :: accP_ q y d2 d3 :: accP_ p x a2 a3 :: IwC b rp ab :: R2) := by rw [eM]; exact o2
        have e12' : ∃ born : Nat, v 12 = .tuple #[accI (a1, a2, a3), .int .i64 (born : Int)] ∧ (L 13 = true → v 13 = .int .i64 (born : Int)) ∧ (L 14 = false → BornAt m w2 ab k born) := by
          obtain ⟨b0, h1, h2, _⟩ := e12 (l13 (l14 h14))
          exact ⟨b0, h1, h2, fun h => (by rw [h14] at h; cases h)⟩
        go_simp
        exact hK.out _ _ ⟨o3, kD.trans k2, ⟨f0, f1, f2, f3, f4, f5, f6, f7, f8, f9, f10, f11⟩, fun _ => e12', fun _ => ⟨born, rfl, fun h => (Bool.false_ne_true (n16.symm.trans h)).elim, fun _ => hB⟩, l13, l14, fun _ => h14, fun h => rfl, l17⟩
      · obtain ⟨born, h12, h13, hB⟩ := e15 hd
        have c0 := (hA.get 15 hd).trans h12
        go_simp
        exact hK.out _ _ ⟨oD, kD, ⟨f0, f1, f2, f3, f4, f5, f6, f7, f8, f9, f10, f11⟩, e12, fun _ => ⟨born, h12, fun _ => rfl, hB⟩, l13, l14, l15, fun _ => hd, fun h => rfl⟩
      · obtain ⟨born, h12, h13, hB⟩ := e15 hd.2.2.2.1
        have c0 := (hA.get 8 hd.1).trans (f8 hd.1)
        have c1' := (hA.get 16 hd.2.1).trans (h13 hd.2.1)
        have c2 := (hA.get 11 hd.2.2.1).trans (f11 hd.2.2.1)
        have hd16 := hd.2.1
        have h14 := l15 (l16 hd16)
        have eM : mvI k j (a1, a2, a3) (d1, d2, d3) x y m L = mput m k (x, a2, a3) := by unfold mvI; rw [hL, h14]; rfl
        rw [eM] at oD
        obtain ⟨w2, hr, o2, k2⟩ := run_entryStore_mpI (P := Tryz.prog) (t := 137) oD j (y, d2, d3) (hB hL)
        have o3 : Own w2 (mpI accI ab (mvI k j (a1, a2, a3) (d1, d2, d3) x y m (dIns L 17)) :: accP_ q y d2 d3 :: accP_ p x a2 a3 :: IwC b rp ab :: R2) := o2
        have hr' : (Instr.entryStore 137 (.map (some ab)) (.int .i64 (born : Int)) (.agg #[.int .i64 y, .int .i64 d2, .int .i64 d3])).run Tryz.prog wc = .ok () w2 := hr
        have e12' : ∃ born : Nat, v 12 = .tuple #[accI (a1, a2, a3), .int .i64 (born : Int)] ∧ (L 13 = true → v 13 = .int .i64 (born : Int)) ∧ (L 14 = false → BornAt m w2 ab k born) := by
          obtain ⟨b0, h1, h2, _⟩ := e12 (l13 (l14 h14))
          exact ⟨b0, h1, h2, fun h => (by rw [h14] at h; cases h)⟩
        go_simp
        exact hK.out undef _ ⟨o3, kD.trans k2, ⟨f0, f1, f2, f3, f4, f5, f6, f7, f8, f9, f10, f11⟩, fun _ => e12', fun h => ⟨born, h12, h13, fun h => (Bool.false_ne_true h.symm).elim⟩, l13, l14, l15, l16, fun _ => hd16⟩
    case fin =>
      rintro L v wc hall ⟨oD, kD, _⟩
      have eM : mvI k j (a1, a2, a3) (d1, d2, d3) x y m L = mput (mput m k (x, a2, a3)) j (y, d2, d3) := by unfold mvI; rw [hall 17 (by decide)]; rfl
      rw [eM, ← hR2] at oD
      clear hall oB kB hR2
      have oF := oD.re [5, 3, 4, 0, 1, 2]
      have z0 := Own.cell (T := 38) (vs := [.int .i64 0, .int .i64 0, .int .i64 0]) oF 0
      have z1 := Own.cell (T := 38) (vs := [.int .i64 0, .int .i64 0, .int .i64 0]) oF 1
      have z2 := Own.cell (T := 38) (vs := [.int .i64 0, .int .i64 0, .int .i64 0]) oF 2
      have zf := Own.frozen (T := 38) (vs := [.int .i64 0, .int .i64 0, .int .i64 0]) oF
      have zl := Own.celLt (T := 38) (vs := [.int .i64 0, .int .i64 0, .int .i64 0]) oF
      have o5 := choSet (x := k) (y := j) (z := 5) oF
      simp only [putAll, Act.put, List.setIfInBounds_toArray, List.set_cons_zero, List.set_cons_succ]
      go_wp2
      refine bodyPost_ret (v := .tuple #[chV ⟨k, j, 5⟩, .int .i64 0]) ?_ rfl ?_
      · exact chRow8 (p := w.heap.size) rfl rfl rfl o5
      · refine ⟨rfl, ?_, qcalm_set (qcalm_set (qcalm_set kD))⟩
        rw [show accP (a1, a2, a3) len = (x, a2, a3) from by unfold accP; dsimp only; rw [HX.out], show accP (d1, d2, d3) (-len) = (y, d2, d3) from by unfold accP; dsimp only; rw [← HY.out, Int.sub_eq_add_neg]]
        exact (o5.drop).re [3, 4] 2
end
end Go.Proofs.YtkmlkpfabkhleaaGreat

/- Iwfq: whether heads fit; the lengths of the packets that can be sent; the first pair. -/
namespace Go.Proofs.YtkmlkpfabkhleaaGreat
open Go.RowKit
open SP
section
variable {W w w' : World} {R : List SP}

set_option maxHeartbeats 800000 in
set_option maxRecDepth 100000 in
theorem fitsI_spec (h : Head) (t : Tg) (o : Own w R) :
    Calls Tryz.prog 124 #[headV h, tagV t] w (Ret (.bool (fit1 h t)) R w) := by
  unfold headV tagV
  by_cases h1 : h.f = t.f
  · by_cases h2 : 1 ≤ h.len
    · by_cases h3 : h.len ≤ 4096
      · have e : fit1 h t = true := by simp [fit1, h1, h2, h3]
        rw [e]; clear e
        go_enter Tryz.func124, Tryz.ntmps124
        go_wp2
        go_ret
        exact ⟨rfl, ((o.alloc _).drop.alloc _).drop, ⟨rfl, rfl, rfl⟩⟩
      · have e : fit1 h t = false := by simp [fit1, h3]
        rw [e]; clear e
        go_enter Tryz.func124, Tryz.ntmps124
        go_wp2
        go_ret
        exact ⟨rfl, ((o.alloc _).drop.alloc _).drop, ⟨rfl, rfl, rfl⟩⟩
    · have e : fit1 h t = false := by simp [fit1, h2]
      rw [e]; clear e
      go_enter Tryz.func124, Tryz.ntmps124
      go_wp2
      go_ret
      exact ⟨rfl, ((o.alloc _).drop.alloc _).drop, ⟨rfl, rfl, rfl⟩⟩
  · have e : fit1 h t = false := by simp [fit1, h1]
    have hb : (h.f == t.f) = false := by simpa using h1
    rw [e]; clear e
    go_enter Tryz.func124, Tryz.ntmps124
    go_wp2
    go_ret
    exact ⟨rfl, ((o.alloc _).drop.alloc _).drop, ⟨rfl, rfl, rfl⟩⟩

set_option maxHeartbeats 3200000 in
set_option maxRecDepth 100000 in
theorem equalFuncI_spec {S1 S2 : SP} {a a' : Option Addr} {n c n' c' : Nat} {H : List Head} {L : List Tg} (h1 : HeadsAt S1 a H) (h2 : TagsAt S2 a' L) (hn : n = H.length) (hn' : n' = L.length) (hl : n ≤ 1000) (o : Own w (S1 :: S2 :: R)) :
    Calls Tryz.prog 85 #[.slice a n c, .slice a' n' c', .func (.func 124) #[] #[]] w (Ret (.bool (fitsL H L)) (S1 :: S2 :: R) w) := by
  obtain ⟨X, hX⟩ : ∃ X, fitsL H L = X := ⟨_, rfl⟩
  rw [hX]
  by_cases hne : n = n'
  · subst hne
    have hT : FitRel S1 S2 H L R w (.int .i64 0) w := ⟨0, rfl, by omega, rfl, o, Calm.refl w⟩
    have Hn := Lib.hid hn
    have Hn' := Lib.hid hn'
    have HX := Lib.hid hX
    clear hn hX hn'
    go_enter Tryz.func85, Tryz.ntmps85
    go_wp2
    go_loopw [17] (fun v wr => FitRel S1 S2 H L R w v wr) (fun v _ => n - (Lib.intOf v).toNat)
    case atStart => exact hT
    case round =>
      clear hT
      obtain ⟨i, rfl, hi, hid, oR, kR⟩ := hrel
      have HI := Lib.hid hid
      clear hid
      by_cases hlt : i < n
      · obtain ⟨h, hh⟩ : ∃ h, H[i]? = some h := ⟨_, List.getElem?_eq_getElem (by have := Hn.out; omega)⟩
        obtain ⟨t, ht⟩ : ∃ t, L[i]? = some t := ⟨_, List.getElem?_eq_getElem (by have := Hn'.out; omega)⟩
        obtain ⟨g, rfl, d0, d1, d2⟩ := h1 _ _ oR i _ hh
        obtain ⟨g', so, rfl, e0, e1, e2⟩ := h2 _ _ (oR.up 1) i _ ht
        have HST := Lib.hid (fitsL_step hh ht)
        have oA := (oR.alloc (.cells #[.int .i64 h.f, .int .i64 h.len, .bool h.good] 35)).drop
        obtain ⟨g2, so2, hq, f0, f1, f2⟩ := h2 _ _ (oA.up 1) i _ ht
        cases hq
        have oB := ((oR.alloc (.cells #[.int .i64 h.f, .int .i64 h.len, .bool h.good] 35)).drop.alloc (.cells #[.int .i64 t.f, .int .i64 t.w, .int .i64 t.s] 128)).drop
        have hc := fitsI_spec h t oB
        clear hh ht
        by_cases he : fit1 h t = true
        · rw [he] at hc
          have hv : fitsL H L = fitsL (H.drop (i + 1)) (L.drop (i + 1)) := by rw [HI.out, HST.out, he]; rfl
          have HV := Lib.hid hv
          clear he hv
          go_wp2_with fail
          refine hc.mono ?_
          rintro e1 w1 ⟨rfl, o1, k1⟩
          clear hc
          go_wp2
          go_roundw
          case rel => exact ⟨i + 1, by go_num, by have := Hn.out; omega, HV.out, o1, Calm.trans kR ⟨k1.os, k1.tape, k1.output⟩⟩
          case measure => simp [Lib.intOf]; omega
        · rw [Bool.not_eq_true] at he
          rw [he] at hc
          have hv : X = false := by rw [← HX.out, HI.out, HST.out, he]; rfl
          have HV := Lib.hid hv
          clear he hv
          go_wp2_with fail
          refine hc.mono ?_
          rintro e1 w1 ⟨rfl, o1, k1⟩
          clear hc
          go_wp2
          go_ret
          exact ⟨by rw [HV.out]; rfl, o1, Calm.trans kR ⟨k1.os, k1.tape, k1.output⟩⟩
      · have hn := Hn.out
        have hn' := Hn'.out
        have hv : X = true := by
          rw [← HX.out, HI.out, List.drop_eq_nil_of_le (by omega), List.drop_eq_nil_of_le (by omega)]; rfl
        have HV := Lib.hid hv
        clear hv hn hn'
        go_wp2
        go_ret
        exact ⟨by rw [HV.out]; rfl, oR, kR⟩
  · have hv : X = false := by rw [← hX]; exact fitsL_len (by omega)
    have HV := Lib.hid hv
    clear hv hX hn hn'
    go_enter Tryz.func85, Tryz.ntmps85
    go_wp2
    go_ret
    exact ⟨by rw [HV.out]; rfl, o, Calm.refl w⟩

/-- The lengths of the packets that can be sent. -/
def lenM (H : List Head) : List (Int × Int) := H.foldl (fun m h => if h.good then mput m h.f h.len else m) []
theorem lenM_snoc (H : List Head) (h : Head) : lenM (H ++ [h]) = if h.good then mput (lenM H) h.f h.len else lenM H := by
  unfold lenM
  rw [List.foldl_append]; rfl
theorem lenM_step {H : List Head} {i : Nat} {h : Head} (e : H[i]? = some h) : lenM (H.take (i + 1)) = if h.good then mput (lenM (H.take i)) h.f h.len else lenM (H.take i) := by
  rw [List.take_add_one, e]; exact lenM_snoc _ _
theorem headOf_snoc (H : List Head) (h : Head) (f : Int) (hn : ∀ x ∈ H, x.f ≠ h.f) : headOf (H ++ [h]) f = if f = h.f then h else headOf H f := by
  unfold headOf
  rw [List.find?_append]
  by_cases e : f = h.f
  · subst e
    have : H.find? (fun x => x.f == h.f) = none := List.find?_eq_none.2 fun x hx => by simpa using hn x hx
    rw [this, if_pos rfl, Option.none_or, List.find?_cons_of_pos (by simp)]
    rfl
  · have : [h].find? (fun x => x.f == f) = none := List.find?_eq_none.2 fun x hx => by
      rw [List.mem_singleton] at hx
      subst hx
      simpa using fun e2 => e e2.symm
    rw [this, if_neg e, Option.or_none]
theorem lenM_take {H : List Head} (f : Int) (hp : H.Pairwise (fun a b => a.f < b.f)) : ∀ i : Nat, i ≤ H.length → mget (lenM (H.take i)) f = if (headOf (H.take i) f).good = true then some (headOf (H.take i) f).len else none
  | 0, _ => rfl
  | i + 1, hi => by
    obtain ⟨h, hh⟩ : ∃ h, H[i]? = some h := ⟨_, List.getElem?_eq_getElem (by omega)⟩
    obtain ⟨hi1, hi2⟩ := List.getElem?_eq_some_iff.1 hh
    have ih := lenM_take f hp i (by omega)
    have hn : ∀ x ∈ H.take i, x.f ≠ h.f := fun x hx => by
      obtain ⟨q, hq⟩ := List.getElem?_of_mem hx
      obtain ⟨q1, q2⟩ := List.getElem?_eq_some_iff.1 hq
      rw [List.length_take] at q1
      have := List.pairwise_iff_getElem.1 hp q i (by omega) hi1 (by omega)
      rw [List.getElem_take] at q2
      rw [q2, hi2] at this
      omega
    have hst : H.take (i + 1) = H.take i ++ [h] := by rw [List.take_add_one, hh]; rfl
    rw [hst, lenM_snoc, headOf_snoc _ h f hn]
    cases hg : h.good with
    | true =>
      rw [if_pos rfl, mget_mput]
      by_cases e : f = h.f
      · rw [if_pos e, if_pos e, hg, if_pos rfl]
      · rw [if_neg e, if_neg e, ih]
    | false =>
      rw [if_neg (by simp)]
      by_cases e : f = h.f
      · rw [if_pos e, hg, if_neg (by simp), ih]
        have : headOf (H.take i) f = ⟨0, 0, false⟩ := by
          unfold headOf
          rw [List.find?_eq_none.2 fun x hx => by simpa using fun e2 => hn x hx (e2.trans e)]
          rfl
        rw [this]; rfl
      · rw [if_neg e, ih]
theorem lenM_get {H : List Head} (f : Int) (hp : H.Pairwise (fun a b => a.f < b.f)) : mget (lenM H) f = if (headOf H f).good = true then some (headOf H f).len else none := by
  have := lenM_take f hp H.length (Nat.le_refl _)
  rwa [List.take_length] at this
theorem pairI_at {ok : Tg → Tg → Bool} {js : List Tg} : ∀ {ks : List Tg} {i y : Nat} {k j : Tg}, ks[i]? = some k → (∀ k' ∈ ks.take i, ∀ j' ∈ js, ok k' j' = false) → js[y]? = some j → (∀ j' ∈ js.take y, ok k j' = false) → ok k j = true → pairI ok js ks = some (k, j)
  | [], i, y, k, j, h, _, _, _, _ => by simp at h
  | x :: ks, 0, y, k, j, h, _, hj, hy, ho => by
    simp at h
    subst h
    have hf : js.find? (ok x) = some j := by
      rw [List.find?_eq_some_iff_append]
      obtain ⟨y1, y2⟩ := List.getElem?_eq_some_iff.1 hj
      refine ⟨ho, js.take y, js.drop (y + 1), ?_, fun a ha => by rw [hy a ha]; rfl⟩
      rw [← y2, ← List.drop_eq_getElem_cons y1, List.take_append_drop]
    unfold pairI
    rw [hf]
  | x :: ks, i + 1, y, k, j, h, hk, hj, hy, ho => by
    have hf : js.find? (ok x) = none := List.find?_eq_none.2 fun a ha => by rw [hk x (by simp) a ha]; simp
    unfold pairI
    rw [hf]
    exact pairI_at (ks := ks) (by simpa using h) (fun k' hk' => hk k' (by simp [hk'])) hj hy ho
theorem pairI_end {ok : Tg → Tg → Bool} {js : List Tg} : ∀ {ks : List Tg}, (∀ k' ∈ ks, ∀ j' ∈ js, ok k' j' = false) → pairI ok js ks = none
  | [], _ => rfl
  | x :: ks, hk => by
    have hf : js.find? (ok x) = none := List.find?_eq_none.2 fun a ha => by rw [hk x (by simp) a ha]; simp
    unfold pairI
    rw [hf]
    exact pairI_end fun k' hk' => hk k' (by simp [hk'])
theorem take_step {α : Type} {l : List α} {i : Nat} {x : α} (h : l[i]? = some x) {p : α → Prop} (h1 : ∀ y ∈ l.take i, p y) (h2 : p x) : ∀ y ∈ l.take (i + 1), p y := fun y hy => by
  rw [List.take_add_one, h] at hy
  rcases List.mem_append.1 hy with hy | hy
  · exact h1 y hy
  · simp at hy; subst hy; exact h2
end
end Go.Proofs.YtkmlkpfabkhleaaGreat
