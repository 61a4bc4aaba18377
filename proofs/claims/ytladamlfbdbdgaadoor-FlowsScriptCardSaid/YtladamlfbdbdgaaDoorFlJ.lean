/- The reference's table: SetWeight, SetCaps, SetBounds, Remove. -/
import Derived.Test.YtladamlfbdbdgaaDoorFlH
import Derived.Deep.RegionLaw
namespace Go.Proofs.YtladamlfbdbdgaaDoor
open Go.RowKit
open SP
section
variable {W w w' : World} {R : List SP} {r : Nat} {T : Tab}
theorem flat_setk {α : Type} {g : α → List Value} {sz : Nat} (hg : ∀ x, (g x).length = sz) : ∀ (xs : List α) (i k : Nat) (x y : α) (v : Value), xs[i]? = some x → k < sz → g y = (g x).set k v → (flat g xs).set (i * sz + k) v = flat g (xs.set i y)
  | [], i, k, x, y, v, h, _, _ => by simp at h
  | z :: xs, 0, k, x, y, v, h, hk, hy => by
    simp at h; subst h
    unfold flat
    rw [List.set_cons_zero, List.flatMap_cons, List.flatMap_cons, Nat.zero_mul, Nat.zero_add, List.set_append_left _ _ (by rw [hg]; exact hk), hy]
  | z :: xs, i + 1, k, x, y, v, h, hk, hy => by
    have ih := flat_setk hg xs i k x y v (by simpa using h) hk hy
    unfold flat at ih ⊢
    rw [List.set_cons_succ, List.flatMap_cons, List.flatMap_cons, List.set_append_right _ _ (by rw [hg, Nat.add_mul]; omega), hg, ← ih]
    congr 2
    rw [Nat.add_mul]; omega
def SetR (r : Nat) (T' : Tab) (er : Int) (R : List SP) (w : World) (e : Ending) (w' : World) : Prop := Ret (.int .i64 er) (FlowR r T' :: R) w e w'
theorem flowR_back {i : Nat} {g g' : Flo} {sa fa ga : Option Addr} {sc fc gc : Nat} (hg : T.F[i]? = some (g, true))
    (o : Own w (cel r 74 [.int .i64 T.cap, .int .i64 T.rates, .slice sa T.S.length sc, .slice fa T.F.length fc, .slice ga T.F.length gc] ::
      slc 64 4 sa T.S.length sc (flat staC T.S) :: slc 67 7 fa T.F.length fc (flat floC ((T.F.map (·.1)).set i g')) :: slc 4 1 ga T.F.length gc (T.F.map goneV) :: R)) :
    Own w (FlowR r { T with F := T.F.set i (g', true) } :: R) := by
  refine FlowR.iff.2 ⟨sa, sc, fa, fc, ga, gc, ?_⟩
  have e1 : (T.F.set i (g', true)).map goneV = T.F.map goneV := by
    rw [List.map_set]
    exact set_self (by rw [List.getElem?_map, hg]; rfl)
  have e2 : (T.F.set i (g', true)).map (·.1) = (T.F.map (·.1)).set i g' := by rw [List.map_set]
  rw [show ({ T with F := T.F.set i (g', true) } : Tab).F = T.F.set i (g', true) from rfl, List.length_set, e1, e2]
  exact o

set_option maxHeartbeats 3200000 in
set_option maxRecDepth 100000 in
theorem setWeightR_spec (f x : Int) (hT : T.Ok) (o : Own w (FlowR r T :: R)) :
    Calls Tryd.prog 31 #[.pointer (some ⟨r, 0, none⟩), .int .i64 f, .int .i64 x] w (SetR r (wtT T f x) (wtErr T f x) R w) := by
  have hfl := hT.fl
  have htr := totF_range T.F hT.fwt
  have hcap := hT.cap
  have hth := there_spec f hT o
  cases hg : getF T.F f with
  | none =>
    rw [hg] at hth
    have e1 : wtErr T f x = 6 := by unfold wtErr; rw [hg]
    have e2 : wtT T f x = T := by unfold wtT; rw [hg]
    rw [e1, e2]
    clear e1 e2 hg
    go_enter Tryd.func31, Tryd.ntmps31
    go_wp2_with fail
    refine hth.mono ?_
    rintro e4 w4 ⟨rfl, rfl⟩
    clear hth
    go_wp2
    go_ret
    exact ⟨rfl, o, Calm.refl w⟩
  | some g =>
    rw [hg] at hth
    obtain ⟨i, rfl, hgi, hil⟩ := getF_some hg
    have hwt := goodWeight_spec (w := w) x
    by_cases hbad : badW x
    · have e1 : wtErr T i x = 1 := by unfold wtErr; rw [hg]; exact if_pos hbad
      have e2 : wtT T i x = T := by unfold wtT; rw [hg]; dsimp only; rw [e1]; rfl
      rw [e1, e2]
      rw [decide_eq_false (by unfold badW at hbad; exact hbad)] at hwt
      clear e1 e2 hg hbad
      go_enter Tryd.func31, Tryd.ntmps31
      go_wp2_with fail
      refine hth.mono ?_
      rintro e4 w4 ⟨rfl, rfl⟩
      clear hth
      go_wp2_with fail
      refine hwt.mono ?_
      rintro e4 w4 ⟨rfl, rfl⟩
      go_wp2
      go_ret
      exact ⟨rfl, o, Calm.refl w⟩
    · have hx : 1 ≤ x ∧ x ≤ 16 := by unfold badW at hbad; omega
      rw [decide_eq_true hx] at hwt
      have hgw := hT.wtOf hgi
      have ct := IsRet.still (totalR_spec hT o.drew)
      obtain ⟨sa, sc, fa, fc, ga, gc, o1⟩ := FlowR.iff.1 o
      have c3 := o1.cell 3
      have c0 := o1.cell 0
      have hgm : (T.F.map (·.1))[i]? = some g := by rw [List.getElem?_map, hgi]; rfl
      obtain ⟨g3, rfl, hc3, hf3, hl3⟩ := (o1.up 2).slc_cell (by omega)
      have d2 := hc3 (i * 7 + 2) (.int .i64 g.wt) (by rw [flat_get floC_len (T.F.map (·.1)) i 2 g hgm (by omega)]; rfl)
      have f2 := hf3 (i * 7 + 2)
      clear hc3 hf3
      have hw1 : IntKind.i64.wrap (totF T.F - g.wt) = totF T.F - g.wt := by rw [IntKind.wrap_i64]; omega
      have hw2 : IntKind.i64.wrap (totF T.F - g.wt + x) = totF T.F - g.wt + x := by rw [IntKind.wrap_i64]; omega
      by_cases hc : T.cap < totF T.F - g.wt + x
      · have e1 : wtErr T i x = 12 := by unfold wtErr; rw [hg]; dsimp only; rw [if_neg hbad, if_pos hc]
        have e2 : wtT T i x = T := by unfold wtT; rw [hg]; dsimp only; rw [e1]; rfl
        rw [e1, e2]
        have g1 : decide (T.cap < totF T.F - g.wt + x) = true := decide_eq_true hc
        clear e1 e2 hg hbad hc
        go_enter Tryd.func31, Tryd.ntmps31
        go_wp2_with fail
        refine hth.mono ?_
        rintro e4 w4 ⟨rfl, rfl⟩
        clear hth
        go_wp2_with fail
        refine hwt.mono ?_
        rintro e4 w4 ⟨rfl, rfl⟩
        go_wp2
        refine wp_region_tail 17 (by kernel_rfl) (by kernel_rfl) ?_
        simp only [List.take_succ_cons, List.take_zero, List.drop_succ_cons, List.drop_zero]
        repeat (first | still_step | still_call ct)
        refine wpStill_nil ?_
        go_wp2
        go_ret
        exact ⟨rfl, o.drew, ⟨rfl, rfl, rfl⟩⟩
      · have e1 : wtErr T i x = 0 := by unfold wtErr; rw [hg]; dsimp only; rw [if_neg hbad, if_neg hc]
        have e2 : wtT T i x = { T with F := T.F.set i ({ g with wt := x }, true) } := by unfold wtT; rw [hg]; dsimp only; rw [e1, if_pos rfl]; rfl
        rw [e1, e2]
        have g1 : decide (T.cap < totF T.F - g.wt + x) = false := decide_eq_false hc
        have hset := flat_setk floC_len (T.F.map (·.1)) i 2 g { g with wt := x } (.int .i64 x) hgm (by omega) rfl
        have oS := (o1.drew.up 2).slc_set (i * 7 + 2) (.int .i64 x) (by rw [flat_length floC_len, List.length_map]; omega)
        rw [hset] at oS
        clear e1 e2 hg hbad hc hset
        go_enter Tryd.func31, Tryd.ntmps31
        go_wp2_with fail
        refine hth.mono ?_
        rintro e4 w4 ⟨rfl, rfl⟩
        clear hth
        go_wp2_with fail
        refine hwt.mono ?_
        rintro e4 w4 ⟨rfl, rfl⟩
        go_wp2
        refine wp_region_tail 17 (by kernel_rfl) (by kernel_rfl) ?_
        simp only [List.take_succ_cons, List.take_zero, List.drop_succ_cons, List.drop_zero]
        repeat (first | still_step | still_call ct)
        refine wpStill_nil ?_
        go_wp2
        go_ret
        refine ⟨rfl, flowR_back (sa := sa) (fa := some ⟨g3, 0, none⟩) (ga := ga) (sc := sc) (fc := fc) (gc := gc) hgi ?_, ⟨rfl, rfl, rfl⟩⟩
        exact oS.re [1, 2, 0, 3]

set_option maxHeartbeats 3200000 in
set_option maxRecDepth 100000 in
theorem setCapsR_spec (f p n : Int) (hT : T.Ok) (o : Own w (FlowR r T :: R)) :
    Calls Tryd.prog 33 #[.pointer (some ⟨r, 0, none⟩), .int .i64 f, .int .i64 p, .int .i64 n] w (SetR r (capT T f p n) (capErr T f p n) R w) := by
  have hfl := hT.fl
  have hth := there_spec f hT o
  cases hg : getF T.F f with
  | none =>
    rw [hg] at hth
    have e1 : capErr T f p n = 6 := by unfold capErr; rw [hg]
    have e2 : capT T f p n = T := by unfold capT; rw [hg]
    rw [e1, e2]
    clear e1 e2 hg
    go_enter Tryd.func33, Tryd.ntmps33
    go_wp2_with fail
    refine hth.mono ?_
    rintro e4 w4 ⟨rfl, rfl⟩
    clear hth
    go_wp2
    go_ret
    exact ⟨rfl, o, Calm.refl w⟩
  | some g =>
    rw [hg] at hth
    obtain ⟨i, rfl, hgi, hil⟩ := getF_some hg
    by_cases hbad : p < 1 ∨ 64 < p ∨ n < 1 ∨ 262144 < n
    · have e1 : capErr T i p n = 1 := by unfold capErr; rw [hg]; exact if_pos hbad
      have e2 : capT T i p n = T := by unfold capT; rw [hg]; dsimp only; rw [e1]; rfl
      rw [e1, e2]
      have hgc := goodCaps_spec (w := w) p n
      rw [decide_eq_false (by exact fun h => h hbad)] at hgc
      clear e1 e2 hg hbad
      go_enter Tryd.func33, Tryd.ntmps33
      go_wp2_with fail
      refine hth.mono ?_
      rintro e4 w4 ⟨rfl, rfl⟩
      clear hth
      go_wp2_with fail
      refine hgc.mono ?_
      rintro e4 w4 ⟨rfl, rfl⟩
      go_wp2
      go_ret
      exact ⟨rfl, o, Calm.refl w⟩
    · have e1 : capErr T i p n = 0 := by unfold capErr; rw [hg]; exact if_neg hbad
      have e2 : capT T i p n = { T with F := T.F.set i ({ g with pk := p, bts := n }, true) } := by unfold capT; rw [hg]; dsimp only; rw [e1, if_pos rfl]; rfl
      rw [e1, e2]
      obtain ⟨sa, sc, fa, fc, ga, gc, o1⟩ := FlowR.iff.1 o
      have c3 := o1.cell 3
      have hgm : (T.F.map (·.1))[i]? = some g := by rw [List.getElem?_map, hgi]; rfl
      have hgm2 : ((T.F.map (·.1)).set i { g with pk := p })[i]? = some { g with pk := p } := by rw [List.getElem?_set_self (by rw [List.length_map]; exact hil)]
      have hset := flat_setk floC_len (T.F.map (·.1)) i 3 g { g with pk := p } (.int .i64 p) hgm (by omega) rfl
      have hset2 := flat_setk floC_len ((T.F.map (·.1)).set i { g with pk := p }) i 4 { g with pk := p } { g with pk := p, bts := n } (.int .i64 n) hgm2 (by omega) rfl
      rw [List.set_set] at hset2
      obtain ⟨g3, rfl, hc3, hf3, hl3⟩ := (o1.up 2).slc_cell (by omega)
      have d2 := hc3 (i * 7 + 3) (.int .i64 g.pk) (by rw [flat_get floC_len (T.F.map (·.1)) i 3 g hgm (by omega)]; rfl)
      have f2 := hf3
      clear hc3 hf3
      have oS := ((o1.up 2).slc_set (i * 7 + 3) (.int .i64 p) (by rw [flat_length floC_len, List.length_map]; omega)).drew
      rw [hset] at oS
      obtain ⟨g3', hg3, hc4, hf4, _⟩ := oS.slc_cell (by omega)
      cases hg3
      have d3 := hc4 (i * 7 + 4) (.int .i64 g.bts) (by rw [flat_get floC_len _ i 4 _ hgm2 (by omega)]; rfl)
      have f3 := hf4 (i * 7 + 4)
      clear hc4 hf4
      have oU := oS.slc_set (i * 7 + 4) (.int .i64 n) (by rw [flat_length floC_len, List.length_set, List.length_map]; omega)
      rw [hset2] at oU
      have hilI : (i : Int) < (T.F.length : Int) := by omega
      have hgc := goodCaps_spec (w := w) p n
      rw [decide_eq_true hbad] at hgc
      clear hbad
      clear e1 e2 hg hset hset2 hgm hgm2
      go_enter Tryd.func33, Tryd.ntmps33
      go_wp2_with fail
      refine hth.mono ?_
      rintro e4 w4 ⟨rfl, rfl⟩
      clear hth
      go_wp2_with fail
      refine hgc.mono ?_
      rintro e4 w4 ⟨rfl, rfl⟩
      go_wp2
      go_region_law (fail)
      all_goals go_wp2
      all_goals go_ret
      all_goals refine ⟨rfl, flowR_back (sa := sa) (fa := some ⟨g3, 0, none⟩) (ga := ga) (sc := sc) (fc := fc) (gc := gc) hgi ?_, ⟨rfl, rfl, rfl⟩⟩
      all_goals exact oU.re [1, 2, 0, 3]

set_option maxHeartbeats 3200000 in
set_option maxRecDepth 100000 in
theorem setBoundsR_spec (f p n : Int) (hT : T.Ok) (o : Own w (FlowR r T :: R)) :
    Calls Tryd.prog 35 #[.pointer (some ⟨r, 0, none⟩), .int .i64 f, .int .i64 p, .int .i64 n] w (SetR r (bndT T f p n) (bndErr T f p n) R w) := by
  have hfl := hT.fl
  have hth := there_spec f hT o
  cases hg : getF T.F f with
  | none =>
    rw [hg] at hth
    have e1 : bndErr T f p n = 6 := by unfold bndErr; rw [hg]
    have e2 : bndT T f p n = T := by unfold bndT; rw [hg]
    rw [e1, e2]
    clear e1 e2 hg
    go_enter Tryd.func35, Tryd.ntmps35
    go_wp2_with fail
    refine hth.mono ?_
    rintro e4 w4 ⟨rfl, rfl⟩
    clear hth
    go_wp2
    go_ret
    exact ⟨rfl, o, Calm.refl w⟩
  | some g =>
    rw [hg] at hth
    obtain ⟨i, rfl, hgi, hil⟩ := getF_some hg
    by_cases hbad : p < 0 ∨ 1099511627776 < p ∨ n < 0 ∨ 1099511627776 < n
    · have e1 : bndErr T i p n = 1 := by unfold bndErr; rw [hg]; exact if_pos hbad
      have e2 : bndT T i p n = T := by unfold bndT; rw [hg]; dsimp only; rw [e1]; rfl
      rw [e1, e2]
      have HB := Lib.hid hbad
      clear e1 e2 hg hbad
      go_enter Tryd.func35, Tryd.ntmps35
      go_wp2_with fail
      refine hth.mono ?_
      rintro e4 w4 ⟨rfl, rfl⟩
      clear hth
      go_wp2
      all_goals first
        | (go_ret; exact ⟨rfl, o, Calm.refl w⟩)
        | (exfalso; have := HB.out; omega)
    · have e1 : bndErr T i p n = 0 := by unfold bndErr; rw [hg]; exact if_neg hbad
      have e2 : bndT T i p n = { T with F := T.F.set i ({ g with lag := p, lead := n }, true) } := by unfold bndT; rw [hg]; dsimp only; rw [e1, if_pos rfl]; rfl
      rw [e1, e2]
      obtain ⟨sa, sc, fa, fc, ga, gc, o1⟩ := FlowR.iff.1 o
      have c3 := o1.cell 3
      have hgm : (T.F.map (·.1))[i]? = some g := by rw [List.getElem?_map, hgi]; rfl
      have hgm2 : ((T.F.map (·.1)).set i { g with lag := p })[i]? = some { g with lag := p } := by rw [List.getElem?_set_self (by rw [List.length_map]; exact hil)]
      have hset := flat_setk floC_len (T.F.map (·.1)) i 5 g { g with lag := p } (.int .i64 p) hgm (by omega) rfl
      have hset2 := flat_setk floC_len ((T.F.map (·.1)).set i { g with lag := p }) i 6 { g with lag := p } { g with lag := p, lead := n } (.int .i64 n) hgm2 (by omega) rfl
      rw [List.set_set] at hset2
      obtain ⟨g3, rfl, hc3, hf3, hl3⟩ := (o1.up 2).slc_cell (by omega)
      have d2 := hc3 (i * 7 + 5) (.int .i64 g.lag) (by rw [flat_get floC_len (T.F.map (·.1)) i 5 g hgm (by omega)]; rfl)
      have f2 := hf3
      clear hc3 hf3
      have oS := ((o1.up 2).slc_set (i * 7 + 5) (.int .i64 p) (by rw [flat_length floC_len, List.length_map]; omega)).drew
      rw [hset] at oS
      obtain ⟨g3', hg3, hc4, hf4, _⟩ := oS.slc_cell (by omega)
      cases hg3
      have d3 := hc4 (i * 7 + 6) (.int .i64 g.lead) (by rw [flat_get floC_len _ i 6 _ hgm2 (by omega)]; rfl)
      have f3 := hf4 (i * 7 + 6)
      clear hc4 hf4
      have oU := oS.slc_set (i * 7 + 6) (.int .i64 n) (by rw [flat_length floC_len, List.length_set, List.length_map]; omega)
      rw [hset2] at oU
      have hilI : (i : Int) < (T.F.length : Int) := by omega
      have g1 : decide (p < 0) = false := decide_eq_false (by omega)
      have g2 : decide (1099511627776 < p) = false := decide_eq_false (by omega)
      have g3z : decide (n < 0) = false := decide_eq_false (by omega)
      have g4 : decide (1099511627776 < n) = false := decide_eq_false (by omega)
      clear hbad
      clear e1 e2 hg hset hset2 hgm hgm2
      go_enter Tryd.func35, Tryd.ntmps35
      go_wp2_with fail
      refine hth.mono ?_
      rintro e4 w4 ⟨rfl, rfl⟩
      clear hth

      go_wp2
      go_region_law (fail)
      all_goals go_wp2
      all_goals go_ret
      all_goals refine ⟨rfl, flowR_back (sa := sa) (fa := some ⟨g3, 0, none⟩) (ga := ga) (sc := sc) (fc := fc) (gc := gc) hgi ?_, ⟨rfl, rfl, rfl⟩⟩
      all_goals exact oU.re [1, 2, 0, 3]

set_option maxHeartbeats 3200000 in
set_option maxRecDepth 100000 in
theorem removeR_spec (f : Int) (hT : T.Ok) (o : Own w (FlowR r T :: R)) :
    Calls Tryd.prog 36 #[.pointer (some ⟨r, 0, none⟩), .int .i64 f] w (SetR r (rmT T f) (rmErr T f) R w) := by
  have hfl := hT.fl
  have hth := there_spec f hT o
  cases hg : getF T.F f with
  | none =>
    rw [hg] at hth
    have e1 : rmErr T f = 6 := by unfold rmErr; rw [hg]
    have e2 : rmT T f = T := by unfold rmT; rw [hg]
    rw [e1, e2]
    clear e1 e2 hg
    go_enter Tryd.func36, Tryd.ntmps36
    go_wp2_with fail
    refine hth.mono ?_
    rintro e4 w4 ⟨rfl, rfl⟩
    clear hth
    go_wp2
    go_ret
    exact ⟨rfl, o, Calm.refl w⟩
  | some g =>
    rw [hg] at hth
    obtain ⟨i, rfl, hgi, hil⟩ := getF_some hg
    have e1 : rmErr T i = 0 := by unfold rmErr; rw [hg]
    have e2 : rmT T i = { T with F := T.F.set i (g, false) } := by unfold rmT; rw [hg]; rfl
    rw [e1, e2]
    clear e1 e2 hg
    obtain ⟨sa, sc, fa, fc, ga, gc, o1⟩ := FlowR.iff.1 o
    have c4 := o1.cell 4
    obtain ⟨g4, rfl, hc, hf, hl⟩ := (o1.up 3).slc_cell (by omega)
    have d := hc i (.bool false) (by rw [List.getElem?_map, hgi]; rfl)
    have f1 := hf i
    clear hc hf
    have oS := (o1.up 3).slc_set i (.bool true) (by rw [List.length_map]; omega)
    have hilI : (i : Int) < (T.F.length : Int) := by omega
    go_enter Tryd.func36, Tryd.ntmps36
    go_wp2_with fail
    refine hth.mono ?_
    rintro e4 w4 ⟨rfl, rfl⟩
    clear hth
    go_wp2
    go_ret
    refine ⟨rfl, FlowR.iff.2 ⟨sa, sc, fa, fc, some ⟨g4, 0, none⟩, gc, ?_⟩, ⟨rfl, rfl, rfl⟩⟩
    have e3 : (T.F.set i (g, false)).map (·.1) = T.F.map (·.1) := by
      rw [List.map_set]
      exact set_self (by rw [List.getElem?_map, hgi]; rfl)
    have e4 : (T.F.map goneV).set i (.bool true) = (T.F.set i (g, false)).map goneV := by rw [List.map_set]; rfl
    rw [e4] at oS
    rw [show ({ T with F := T.F.set i (g, false) } : Tab).F = T.F.set i (g, false) from rfl, List.length_set, e3]
    exact oS.re [1, 2, 3, 0]
end
end Go.Proofs.YtladamlfbdbdgaaDoor
