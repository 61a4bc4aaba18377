/- The program's table: SetWeight, SetCaps, SetBounds, Remove. -/
import Derived.Test.YtladamlfbdbdgaaDoorFlC
namespace Go.Proofs.YtladamlfbdbdgaaDoor
open Go.RowKit
open SP
section
variable {W w w' : World} {R : List SP} {b : Nat} {T : Tab}

theorem PtrOk.set {ps : List (Option Nat)} {F : List (Flo × Bool)} (hp : PtrOk ps F) {i : Nat} {g g' : Flo} (hg : F[i]? = some (g, true)) : PtrOk ps (F.set i (g', true)) := by
  unfold PtrOk at hp ⊢
  rw [hp, List.map_set]
  exact (set_self (by rw [List.getElem?_map, hg]; rfl)).symm
theorem flow_back {i c : Nat} {g g' : Flo} {sa fa : Option Addr} {sc mb fc : Nat} {ps : List (Option Nat)} {t : Int} (hp : PtrOk ps T.F) (hg : T.F[i]? = some (g, true)) (hc : ps[i]? = some (some c)) (ht : t = totF (T.F.set i (g', true)))
    (o : Own w (cel c 67 (floC g') :: st ((blks ps T.F).eraseIdx i) :: cel b 59 [.int .i64 T.cap, .int .i64 T.rates, .slice sa T.S.length sc, .map (some mb), .slice fa T.F.length fc, .int .i64 t] ::
      slc 64 4 sa T.S.length sc (flat staC T.S) :: mpS (Value.int .i64) mb (nmMap T.S) :: slc 65 1 fa T.F.length fc (ps.map ptrV) :: R)) :
    Own w (FlowP b { T with F := T.F.set i (g', true) } :: R) := by
  have o1 := Own.unfocus (blks_at hc hg) o
  rw [blks_set (c' := true) hc hg] at o1
  subst ht
  refine FlowP.iff.2 ⟨sa, sc, mb, fa, fc, ps, hp.set hg, ?_⟩
  rw [List.length_set]
  exact o1.re [1, 2, 3, 4, 0]

theorem flow_no {f : Int} {sa fa : Option Addr} {sc mb fc : Nat} {ps : List (Option Nat)} (hp : PtrOk ps T.F) (hl : T.F.length ≤ 32) (hg : getF T.F f = none)
    (o : Own w (cel b 59 [.int .i64 T.cap, .int .i64 T.rates, .slice sa T.S.length sc, .map (some mb), .slice fa T.F.length fc, .int .i64 (totF T.F)] ::
      slc 64 4 sa T.S.length sc (flat staC T.S) :: mpS (Value.int .i64) mb (nmMap T.S) :: slc 65 1 fa T.F.length fc (ps.map ptrV) :: st (blks ps T.F) :: R)) :
    Calls Tryd.prog 26 #[.pointer (some ⟨b, 0, none⟩), .int .i64 f] w (IsRet (.pointer none) w) := by
  have h := flow_get f hp hl o
  rw [flowPtr_none hp hg] at h
  exact h
theorem flow_yes {i c : Nat} {sa fa : Option Addr} {sc mb fc : Nat} {ps : List (Option Nat)} (hp : PtrOk ps T.F) (hl : T.F.length ≤ 32) (hfp : flowPtr ps i = some c)
    (o : Own w (cel b 59 [.int .i64 T.cap, .int .i64 T.rates, .slice sa T.S.length sc, .map (some mb), .slice fa T.F.length fc, .int .i64 (totF T.F)] ::
      slc 64 4 sa T.S.length sc (flat staC T.S) :: mpS (Value.int .i64) mb (nmMap T.S) :: slc 65 1 fa T.F.length fc (ps.map ptrV) :: st (blks ps T.F) :: R)) :
    Calls Tryd.prog 26 #[.pointer (some ⟨b, 0, none⟩), .int .i64 (i : Int)] w (IsRet (.pointer (some ⟨c, 0, none⟩)) w) := by
  have h := flow_get (i : Int) hp hl o
  rw [hfp] at h
  exact h

/-- What a setter answers: an error and the table. -/
def SetP (b : Nat) (T' : Tab) (er : Int) (R : List SP) (w : World) (e : Ending) (w' : World) : Prop := Ret (.int .i64 er) (FlowP b T' :: R) w e w'

set_option maxHeartbeats 3200000 in
set_option maxRecDepth 100000 in
theorem setWeight_spec (f x : Int) (hT : T.Ok) (o : Own w (FlowP b T :: R)) :
    Calls Tryd.prog 30 #[.pointer (some ⟨b, 0, none⟩), .int .i64 f, .int .i64 x] w (SetP b (wtT T f x) (wtErr T f x) R w) := by
  have hfl := hT.fl
  have htr := totF_range T.F hT.fwt
  have hcap := hT.cap
  obtain ⟨sa, sc, mb, fa, fc, ps, hp, o1⟩ := FlowP.iff.1 o
  cases hg : getF T.F f with
  | none =>
    have hget := flow_no hp hfl hg o1
    have e1 : wtErr T f x = 6 := by unfold wtErr; rw [hg]
    have e2 : wtT T f x = T := by unfold wtT; rw [hg]
    rw [e1, e2]
    clear e1 e2 hg
    go_enter Tryd.func30, Tryd.ntmps30
    go_wp2_with fail
    refine hget.mono ?_
    rintro e4 w4 ⟨rfl, rfl⟩
    clear hget
    go_wp2
    go_ret
    exact ⟨rfl, o, Calm.refl w⟩
  | some g =>
    obtain ⟨i, c, rfl, hgi, hci, hfp, hil⟩ := flowPtr_some hp hg
    have hget := flow_yes hp hfl hfp o1
    have hwt := weighty_spec (w := w) x
    by_cases hbad : badW x
    · have e1 : wtErr T i x = 1 := by unfold wtErr; rw [hg]; exact if_pos hbad
      have e2 : wtT T i x = T := by unfold wtT; rw [hg]; dsimp only; rw [e1]; rfl
      rw [e1, e2]
      rw [decide_eq_false (by unfold badW at hbad; exact hbad)] at hwt
      clear e1 e2 hg hbad
      go_enter Tryd.func30, Tryd.ntmps30
      go_wp2_with fail
      refine hget.mono ?_
      rintro e4 w4 ⟨rfl, rfl⟩
      clear hget
      go_wp2_with fail
      refine hwt.mono ?_
      rintro e4 w4 ⟨rfl, rfl⟩
      go_wp2
      go_ret
      exact ⟨rfl, o, Calm.refl w⟩
    · have hx : 1 ≤ x ∧ x ≤ 16 := by unfold badW at hbad; omega
      rw [decide_eq_true hx] at hwt
      have hgw := hT.wtOf hgi
      have hts := totF_set T.F i g { g with wt := x } true true hgi
      simp only [if_true] at hts
      have oF := Own.focus (blks_at hci hgi) (o1.up 4)
      dsimp only at oF
      have d2 : w.cell? ⟨c, 2, none⟩ = some (.int .i64 g.wt) := oF.cell 2
      have c0 := o1.cell 0
      have c5 := o1.cell 5
      have hw1 : IntKind.i64.wrap (totF T.F - g.wt) = totF T.F - g.wt := by rw [IntKind.wrap_i64]; omega
      have hw2 : IntKind.i64.wrap (totF T.F - g.wt + x) = totF T.F - g.wt + x := by rw [IntKind.wrap_i64]; omega
      have hw3 : IntKind.i64.wrap (x - g.wt) = x - g.wt := by rw [IntKind.wrap_i64]; omega
      have hw4 : IntKind.i64.wrap (totF T.F + (x - g.wt)) = totF T.F + (x - g.wt) := by rw [IntKind.wrap_i64]; omega
      by_cases hc : T.cap < totF T.F - g.wt + x
      · have e1 : wtErr T i x = 12 := by unfold wtErr; rw [hg]; dsimp only; rw [if_neg hbad, if_pos hc]
        have e2 : wtT T i x = T := by unfold wtT; rw [hg]; dsimp only; rw [e1]; rfl
        rw [e1, e2]
        have g1 : decide (T.cap < totF T.F - g.wt + x) = true := decide_eq_true hc
        clear e1 e2 hg hbad hc hts
        go_enter Tryd.func30, Tryd.ntmps30
        go_wp2_with fail
        refine hget.mono ?_
        rintro e4 w4 ⟨rfl, rfl⟩
        clear hget
        go_wp2_with fail
        refine hwt.mono ?_
        rintro e4 w4 ⟨rfl, rfl⟩
        go_wp2
        go_quiet (fail)
        go_wp2
        go_ret
        exact ⟨rfl, o.drewN _, ⟨rfl, rfl, rfl⟩⟩
      · have e1 : wtErr T i x = 0 := by unfold wtErr; rw [hg]; dsimp only; rw [if_neg hbad, if_neg hc]
        have e2 : wtT T i x = { T with F := T.F.set i ({ g with wt := x }, true) } := by unfold wtT; rw [hg]; dsimp only; rw [e1, if_pos rfl]; rfl
        rw [e1, e2]
        have g1 : decide (T.cap < totF T.F - g.wt + x) = false := decide_eq_false hc
        have HTS := Lib.hid hts
        clear e1 e2 hg hbad hc hts
        have f5 := o1.frozen
        have l5 := o1.celLt
        go_enter Tryd.func30, Tryd.ntmps30
        go_wp2_with fail
        refine hget.mono ?_
        rintro e4 w4 ⟨rfl, rfl⟩
        clear hget
        go_wp2_with fail
        refine hwt.mono ?_
        rintro e4 w4 ⟨rfl, rfl⟩
        go_wp2
        go_quiet (fail)
        go_wp2
        refine wp_region_tail 10 (by kernel_rfl) (by kernel_rfl) ?_
        simp only [List.take_succ_cons, List.take_zero, List.drop_succ_cons, List.drop_zero]
        repeat still_step
        refine wpStill_nil ?_
        have oG := ((oF.drewN (nq + 1)).up 2).setCell 5 (.int .i64 (totF T.F + (x - g.wt)))
        have oH := oG.up 1
        have p2 := oH.cell 2
        have pf := oH.frozen
        have pl := oH.celLt
        have oI := oH.setCell 2 (.int .i64 x)
        go_wp2
        go_ret
        refine ⟨rfl, flow_back (sa := sa) (fa := fa) (sc := sc) (mb := mb) (fc := fc) (t := totF T.F + (x - g.wt)) hp hgi hci (by rw [HTS.out]; omega) ?_, ⟨rfl, rfl, rfl⟩⟩
        exact oI.re [0, 2, 1, 3, 4, 5]

set_option maxHeartbeats 3200000 in
set_option maxRecDepth 100000 in
theorem setCaps_spec (f p n : Int) (hT : T.Ok) (o : Own w (FlowP b T :: R)) :
    Calls Tryd.prog 32 #[.pointer (some ⟨b, 0, none⟩), .int .i64 f, .int .i64 p, .int .i64 n] w (SetP b (capT T f p n) (capErr T f p n) R w) := by
  have hfl := hT.fl
  obtain ⟨sa, sc, mb, fa, fc, ps, hp, o1⟩ := FlowP.iff.1 o
  cases hg : getF T.F f with
  | none =>
    have hget := flow_no hp hfl hg o1
    have e1 : capErr T f p n = 6 := by unfold capErr; rw [hg]
    have e2 : capT T f p n = T := by unfold capT; rw [hg]
    rw [e1, e2]
    clear e1 e2 hg
    go_enter Tryd.func32, Tryd.ntmps32
    go_wp2_with fail
    refine hget.mono ?_
    rintro e4 w4 ⟨rfl, rfl⟩
    clear hget
    go_wp2
    go_ret
    exact ⟨rfl, o, Calm.refl w⟩
  | some g =>
    obtain ⟨i, c, rfl, hgi, hci, hfp, hil⟩ := flowPtr_some hp hg
    have hget := flow_yes hp hfl hfp o1
    by_cases hbad : p < 1 ∨ 64 < p ∨ n < 1 ∨ 262144 < n
    · have e1 : capErr T i p n = 1 := by unfold capErr; rw [hg]; exact if_pos hbad
      have e2 : capT T i p n = T := by unfold capT; rw [hg]; dsimp only; rw [e1]; rfl
      rw [e1, e2]
      have HB := Lib.hid hbad
      clear e1 e2 hg hbad
      go_enter Tryd.func32, Tryd.ntmps32
      go_wp2_with fail
      refine hget.mono ?_
      rintro e4 w4 ⟨rfl, rfl⟩
      clear hget
      go_wp2
      all_goals first
        | (go_ret; exact ⟨rfl, o, Calm.refl w⟩)
        | (exfalso; have := HB.out; omega)
    · have e1 : capErr T i p n = 0 := by unfold capErr; rw [hg]; exact if_neg hbad
      have e2 : capT T i p n = { T with F := T.F.set i ({ g with pk := p, bts := n }, true) } := by unfold capT; rw [hg]; dsimp only; rw [e1, if_pos rfl]; rfl
      rw [e1, e2]
      have hts := totF_set T.F i g { g with pk := p, bts := n } true true hgi
      simp only [if_true] at hts
      have HTS := Lib.hid hts
      have g1 : decide (p < 1) = false := decide_eq_false (by omega)
      have g2 : decide (64 < p) = false := decide_eq_false (by omega)
      have g3 : decide (n < 1) = false := decide_eq_false (by omega)
      have g4 : decide (262144 < n) = false := decide_eq_false (by omega)
      clear e1 e2 hg hbad hts
      have oF := Own.focus (blks_at hci hgi) (o1.up 4)
      dsimp only at oF
      have p1 : w.cell? ⟨c, 3, none⟩ = some (.int .i64 g.pk) := oF.cell 3
      have pf := Own.frozen oF
      have pl := Own.celLt oF
      have oG := Own.setCell oF 3 (.int .i64 p)
      have q2 : (w.setCell ⟨c, 3, none⟩ (.int .i64 p)).cell? ⟨c, 4, none⟩ = some (.int .i64 g.bts) := oG.cell 4
      have oH := oG.setCell 4 (.int .i64 n)
      go_enter Tryd.func32, Tryd.ntmps32
      go_wp2_with fail
      refine hget.mono ?_
      rintro e4 w4 ⟨rfl, rfl⟩
      clear hget
      go_wp2
      go_ret
      refine ⟨rfl, flow_back (sa := sa) (fa := fa) (sc := sc) (mb := mb) (fc := fc) (t := totF T.F) hp hgi hci (by rw [HTS.out]; omega) ?_, ⟨rfl, rfl, rfl⟩⟩
      exact oH.re [0, 1, 2, 3, 4, 5]

set_option maxHeartbeats 3200000 in
set_option maxRecDepth 100000 in
theorem setBounds_spec (f p n : Int) (hT : T.Ok) (o : Own w (FlowP b T :: R)) :
    Calls Tryd.prog 34 #[.pointer (some ⟨b, 0, none⟩), .int .i64 f, .int .i64 p, .int .i64 n] w (SetP b (bndT T f p n) (bndErr T f p n) R w) := by
  have hfl := hT.fl
  obtain ⟨sa, sc, mb, fa, fc, ps, hp, o1⟩ := FlowP.iff.1 o
  cases hg : getF T.F f with
  | none =>
    have hget := flow_no hp hfl hg o1
    have e1 : bndErr T f p n = 6 := by unfold bndErr; rw [hg]
    have e2 : bndT T f p n = T := by unfold bndT; rw [hg]
    rw [e1, e2]
    clear e1 e2 hg
    go_enter Tryd.func34, Tryd.ntmps34
    go_wp2_with fail
    refine hget.mono ?_
    rintro e4 w4 ⟨rfl, rfl⟩
    clear hget
    go_wp2
    go_ret
    exact ⟨rfl, o, Calm.refl w⟩
  | some g =>
    obtain ⟨i, c, rfl, hgi, hci, hfp, hil⟩ := flowPtr_some hp hg
    have hget := flow_yes hp hfl hfp o1
    by_cases hbad : p < 0 ∨ 1099511627776 < p ∨ n < 0 ∨ 1099511627776 < n
    · have e1 : bndErr T i p n = 1 := by unfold bndErr; rw [hg]; exact if_pos hbad
      have e2 : bndT T i p n = T := by unfold bndT; rw [hg]; dsimp only; rw [e1]; rfl
      rw [e1, e2]
      have HB := Lib.hid hbad
      clear e1 e2 hg hbad
      go_enter Tryd.func34, Tryd.ntmps34
      go_wp2_with fail
      refine hget.mono ?_
      rintro e4 w4 ⟨rfl, rfl⟩
      clear hget
      go_wp2
      all_goals first
        | (go_ret; exact ⟨rfl, o, Calm.refl w⟩)
        | (exfalso; have := HB.out; omega)
    · have e1 : bndErr T i p n = 0 := by unfold bndErr; rw [hg]; exact if_neg hbad
      have e2 : bndT T i p n = { T with F := T.F.set i ({ g with lag := p, lead := n }, true) } := by unfold bndT; rw [hg]; dsimp only; rw [e1, if_pos rfl]; rfl
      rw [e1, e2]
      have hts := totF_set T.F i g { g with lag := p, lead := n } true true hgi
      simp only [if_true] at hts
      have HTS := Lib.hid hts
      have g1 : decide (p < 0) = false := decide_eq_false (by omega)
      have g2 : decide (1099511627776 < p) = false := decide_eq_false (by omega)
      have g3 : decide (n < 0) = false := decide_eq_false (by omega)
      have g4 : decide (1099511627776 < n) = false := decide_eq_false (by omega)
      clear e1 e2 hg hbad hts
      have oF := Own.focus (blks_at hci hgi) (o1.up 4)
      dsimp only at oF
      have p1 : w.cell? ⟨c, 5, none⟩ = some (.int .i64 g.lag) := oF.cell 5
      have pf := Own.frozen oF
      have pl := Own.celLt oF
      have oG := Own.setCell oF 5 (.int .i64 p)
      have q2 : (w.setCell ⟨c, 5, none⟩ (.int .i64 p)).cell? ⟨c, 6, none⟩ = some (.int .i64 g.lead) := oG.cell 6
      have oH := oG.setCell 6 (.int .i64 n)
      go_enter Tryd.func34, Tryd.ntmps34
      go_wp2_with fail
      refine hget.mono ?_
      rintro e4 w4 ⟨rfl, rfl⟩
      clear hget
      go_wp2
      go_ret
      refine ⟨rfl, flow_back (sa := sa) (fa := fa) (sc := sc) (mb := mb) (fc := fc) (t := totF T.F) hp hgi hci (by rw [HTS.out]; omega) ?_, ⟨rfl, rfl, rfl⟩⟩
      exact oH.re [0, 1, 2, 3, 4, 5]

set_option maxHeartbeats 3200000 in
set_option maxRecDepth 100000 in
theorem remove_spec (f : Int) (hT : T.Ok) (o : Own w (FlowP b T :: R)) :
    Calls Tryd.prog 14 #[.pointer (some ⟨b, 0, none⟩), .int .i64 f] w (SetP b (rmT T f) (rmErr T f) R w) := by
  have hfl := hT.fl
  have htr := totF_range T.F hT.fwt
  have hcap := hT.cap
  obtain ⟨sa, sc, mb, fa, fc, ps, hp, o1⟩ := FlowP.iff.1 o
  have hpl := hp.len
  cases hg : getF T.F f with
  | none =>
    have hget := flow_no hp hfl hg o1
    have e1 : rmErr T f = 6 := by unfold rmErr; rw [hg]
    have e2 : rmT T f = T := by unfold rmT; rw [hg]
    rw [e1, e2]
    clear e1 e2 hg
    go_enter Tryd.func14, Tryd.ntmps14
    go_wp2_with fail
    refine hget.mono ?_
    rintro e4 w4 ⟨rfl, rfl⟩
    clear hget
    go_wp2
    go_ret
    exact ⟨rfl, o, Calm.refl w⟩
  | some g =>
    obtain ⟨i, c, rfl, hgi, hci, hfp, hil⟩ := flowPtr_some hp hg
    have hget := flow_yes hp hfl hfp o1
    have hgw := hT.wtOf hgi
    have hts := totF_set T.F i g g true false hgi
    simp only [if_true, Bool.false_eq_true, if_false] at hts
    have e1 : rmErr T i = 0 := by unfold rmErr; rw [hg]
    have e2 : rmT T i = { T with F := T.F.set i (g, false) } := by unfold rmT; rw [hg]; rfl
    rw [e1, e2]
    have HTS := Lib.hid hts
    clear e1 e2 hg hts
    have hw1 : IntKind.i64.wrap (totF T.F - g.wt) = totF T.F - g.wt := by rw [IntKind.wrap_i64]; omega
    have oF := Own.focus (blks_at hci hgi) (o1.up 4)
    dsimp only at oF
    have d2 : w.cell? ⟨c, 2, none⟩ = some (.int .i64 g.wt) := oF.cell 2
    have c5 := o1.cell 5
    have f5 := o1.frozen
    have l5 := o1.celLt
    have c4 := o1.cell 4
    have oG := ((oF.up 2).setCell 5 (.int .i64 (totF T.F - g.wt))).drew
    have p4 := oG.cell 4
    obtain ⟨ga, rfl, hcell, hfr, hblt⟩ := (oG.up 5).slc_cell (by omega)
    have r1 := hcell i (.pointer (some ⟨c, 0, none⟩)) (by rw [List.getElem?_map, hci]; rfl)
    have rf := hfr i
    clear hcell hfr
    have oH := (oG.up 5).slc_set i (.pointer none) (by rw [List.length_map]; omega)
    rw [show (ps.map ptrV).set i (.pointer none) = (ps.set i none).map ptrV from by rw [List.map_set]; rfl] at oH
    have hilI : (i : Int) < (T.F.length : Int) := by omega
    go_enter Tryd.func14, Tryd.ntmps14
    go_wp2_with fail
    refine hget.mono ?_
    rintro e4 w4 ⟨rfl, rfl⟩
    clear hget
    go_wp2
    refine wp_region_tail 8 (by kernel_rfl) (by kernel_rfl) ?_
    simp only [List.take_succ_cons, List.take_zero, List.drop_succ_cons, List.drop_zero]
    repeat still_step
    refine wpStill_nil ?_
    go_wp2
    go_ret
    have oI := Own.unfocus (B := SP.pu True) (blks_at hci hgi) ((oH.re [2, 3, 1, 4, 5, 0]).drop.puT)
    rw [blks_gone (f := g) (c' := false) hci hgi] at oI
    refine ⟨rfl, FlowP.iff.2 ⟨sa, sc, mb, some ⟨ga, 0, none⟩, fc, ps.set i none, ?_, ?_⟩, ⟨rfl, rfl, rfl⟩⟩
    · unfold PtrOk at hp ⊢
      rw [List.map_set, List.map_set, hp]; rfl
    · rw [show ({ T with F := T.F.set i (g, false) } : Tab).F = T.F.set i (g, false) from rfl, HTS.out, List.length_set]
      rw [show totF T.F - g.wt + 0 = totF T.F - g.wt from by omega]
      exact oI.re [1, 2, 3, 4, 0]
end
end Go.Proofs.YtladamlfbdbdgaaDoor
