/- The reference's table: AddStation, AddFlow. -/
import Derived.Test.YtladamlfbdbdgaaDoorFlH
import Derived.Deep.RegionLaw
namespace Go.Proofs.YtladamlfbdbdgaaDoor
open Go.RowKit
open SP
section
variable {W w w' : World} {R : List SP} {r : Nat} {T : Tab}
theorem Tryd.boolT : ElemT Tryd.prog 72 4 1 1 := ElemT.mk' Tryd.underlying72 (z := .bool false) (by kernel_rfl) (by kernel_rfl) (by omega)
def AddR (r : Nat) (T' : Tab) (id er : Int) (R : List SP) (w : World) (e : Ending) (w' : World) : Prop :=
  Ret (.tuple #[.int .i64 id, .int .i64 er]) (FlowR r T' :: R) w e w'
theorem news_row {nb : Nat} {t : TypeId} {vs : List Value} {size : Nat} (hl : vs.length = size) (h1 : ∀ u ∈ vs, u.oneCell' = true) (o : Own w (cel nb t vs :: R)) : IsSrc w (.slice (some ⟨nb, 0, none⟩) 1 1) size 1 vs :=
  ⟨_, _, rfl, by omega, h1, .inr ⟨_, rfl, fun j u hu => Own.news o j u hu⟩⟩

set_option maxHeartbeats 3200000 in
set_option maxRecDepth 100000 in
theorem addStationR_spec (n : ByteArray) (x q : Int) (hT : T.Ok) (hs : n.size ≤ 2000000) (o : Own w (FlowR r T :: R)) :
    Calls Tryd.prog 28 #[.pointer (some ⟨r, 0, none⟩), .string n, .int .i64 x, .int .i64 q] w (AddR r (staT T n x q) (staId T n x q) (staErr T n x q) R w) := by
  have hsl := hT.sl
  have hvn := validName_spec n hs o
  by_cases hbad : nameB n.data.toList = false ∨ badW x ∨ q < 0 ∨ T.rates ≤ q
  · have hE : staErr T n x q = 1 := by unfold staErr; rw [if_pos hbad]
    have e2 : staId T n x q = 0 := by unfold staId; rw [hE]; rfl
    have e3 : staT T n x q = T := by unfold staT; rw [hE]; rfl
    rw [hE, e2, e3]
    clear hE e2 e3
    cases hn : nameB n.data.toList with
    | false =>
      rw [hn] at hvn
      clear hn hbad
      go_enter Tryd.func28, Tryd.ntmps28
      go_wp2_with fail
      refine hvn.mono ?_
      rintro e4 w4 ⟨rfl, o4, k4⟩
      clear hvn
      go_wp2
      go_ret2
      exact ⟨rfl, o4, k4⟩
    | true =>
      rw [hn] at hvn
      have hb2 : badW x ∨ q < 0 ∨ T.rates ≤ q := by
        rcases hbad with h | h
        · rw [hn] at h; cases h
        · exact h
      have HB := Lib.hid hb2
      clear hn hbad hb2
      go_enter Tryd.func28, Tryd.ntmps28
      go_wp2_with fail
      refine hvn.mono ?_
      rintro e4 w4 ⟨rfl, o4, k4⟩
      clear hvn
      obtain ⟨sa, sc, fa, fc, ga, gc, o1⟩ := FlowR.iff.1 o4
      have c1 := o1.cell 1
      have hwt := goodWeight_spec (w := w4) x
      by_cases h1 : 1 ≤ x ∧ x ≤ 16
      · rw [decide_eq_true h1] at hwt
        have HB2 := Lib.hid (show q < 0 ∨ T.rates ≤ q by have := HB.out; unfold badW at this; omega)
        go_wp2_with fail
        refine hwt.mono ?_
        rintro e5 w5 ⟨rfl, rfl⟩
        go_wp2
        all_goals first
          | (go_ret2; exact ⟨rfl, o4, k4⟩)
          | (exfalso; have := HB2.out; omega)
      · rw [decide_eq_false h1] at hwt
        clear h1
        go_wp2_with fail
        refine hwt.mono ?_
        rintro e5 w5 ⟨rfl, rfl⟩
        go_wp2
        go_ret2
        exact ⟨rfl, o4, k4⟩
  · have hn : nameB n.data.toList = true := by
      cases hc : nameB n.data.toList with
      | true => rfl
      | false => exact absurd (.inl hc) hbad
    rw [hn] at hvn
    have hx : 1 ≤ x ∧ x ≤ 16 := by
      have : ¬ badW x := fun h => hbad (.inr (.inl h))
      unfold badW at this; omega
    have hq : 0 ≤ q ∧ q < T.rates := by
      have h1 : ¬ (q < 0 ∨ T.rates ≤ q) := fun h => hbad (.inr (.inr h))
      omega
    have q1 : decide (q < 0) = false := decide_eq_false (by omega)
    have q2 : decide (T.rates ≤ q) = false := decide_eq_false (by omega)
    obtain ⟨X, hX⟩ : ∃ X, findT T.S n = X := ⟨_, rfl⟩
    have hE : staErr T n x q = if X.isSome = true then 7 else if T.S.length = 16 then 4 else 0 := by unfold staErr; rw [if_neg hbad, hX]
    have hfind : ∀ (w1 : World), Own w1 (FlowR r T :: R) → Calls Tryd.prog 37 #[.pointer (some ⟨r, 0, none⟩), .string n] w1 (Ret (.tuple #[.int .i64 (X.getD 0), .bool X.isSome]) (FlowR r T :: R) w1) := fun w1 o1 => by
      have := findR_spec n hT hs o1
      rw [hX] at this
      exact this
    have HFD := Lib.hid hfind
    clear hfind hX hbad hn hq
    by_cases hXs : X.isSome = true
    · rw [if_pos hXs] at hE
      have e2 : staId T n x q = 0 := by unfold staId; rw [hE]; rfl
      have e3 : staT T n x q = T := by unfold staT; rw [hE]; rfl
      rw [hE, e2, e3]
      rw [hXs] at HFD
      clear hE e2 e3 hXs
      go_enter Tryd.func28, Tryd.ntmps28
      go_wp2_with fail
      refine hvn.mono ?_
      rintro e4 w4 ⟨rfl, o4, k4⟩
      clear hvn
      obtain ⟨sa, sc, fa, fc, ga, gc, o1⟩ := FlowR.iff.1 o4
      have c1 := o1.cell 1
      have hwt := goodWeight_spec (w := w4) x
      rw [decide_eq_true hx] at hwt
      go_wp2_with fail
      refine hwt.mono ?_
      rintro e5 w5 ⟨rfl, rfl⟩
      go_wp2_with fail
      refine (HFD.out _ o4).mono ?_
      rintro e6 w6 ⟨rfl, o6, k6⟩
      go_wp2
      go_ret2
      exact ⟨rfl, o6, k4.trans k6⟩
    · rw [if_neg hXs] at hE
      have hXf : X.isSome = false := by simpa using hXs
      rw [hXf] at HFD
      clear hXs hXf
      by_cases h16 : T.S.length = 16
      · rw [if_pos h16] at hE
        have e2 : staId T n x q = 0 := by unfold staId; rw [hE]; rfl
        have e3 : staT T n x q = T := by unfold staT; rw [hE]; rfl
        rw [hE, e2, e3]
        clear hE e2 e3
        have h16' : (16 : Int) ≤ (T.S.length : Int) := by omega
        clear h16
        go_enter Tryd.func28, Tryd.ntmps28
        go_wp2_with fail
        refine hvn.mono ?_
        rintro e4 w4 ⟨rfl, o4, k4⟩
        clear hvn
        obtain ⟨sa, sc, fa, fc, ga, gc, o1⟩ := FlowR.iff.1 o4
        have c1 := o1.cell 1
        have hwt := goodWeight_spec (w := w4) x
        rw [decide_eq_true hx] at hwt
        go_wp2_with fail
        refine hwt.mono ?_
        rintro e5 w5 ⟨rfl, rfl⟩
        go_wp2_with fail
        refine (HFD.out _ o4).mono ?_
        rintro e6 w6 ⟨rfl, o6, k6⟩
        obtain ⟨sa, sc, fa, fc, ga, gc, o7⟩ := FlowR.iff.1 o6
        have c2 := o7.cell 2
        go_wp2
        go_ret2
        exact ⟨rfl, o6, k4.trans k6⟩
      · rw [if_neg h16] at hE
        have e2 : staId T n x q = T.S.length := by unfold staId; rw [hE]; rfl
        have e3 : staT T n x q = { T with S := T.S ++ [⟨T.S.length, n, x, q⟩] } := by unfold staT; rw [hE]; rfl
        rw [hE, e2, e3]
        clear hE e2 e3
        have h16' : (T.S.length : Int) < 16 := by omega
        have M1 : Hid (T.S.length + 1 ≤ maxLen) := Lib.hid (by unfold maxLen; omega)
        have M2 : Hid ((T.S.length + 1) * 40 ≤ 140737488355328) := Lib.hid (by omega)
        clear h16
        go_enter Tryd.func28, Tryd.ntmps28
        go_wp2_with fail
        refine hvn.mono ?_
        rintro e4 w4 ⟨rfl, o4, k4⟩
        clear hvn
        obtain ⟨sa, sc, fa, fc, ga, gc, o1⟩ := FlowR.iff.1 o4
        have c1 := o1.cell 1
        have hwt := goodWeight_spec (w := w4) x
        rw [decide_eq_true hx] at hwt
        go_wp2_with fail
        refine hwt.mono ?_
        rintro e5 w5 ⟨rfl, rfl⟩
        go_wp2_with fail
        refine (HFD.out _ o4).mono ?_
        rintro e6 w6 ⟨rfl, o6, k6⟩
        clear HFD c1 o1 hwt
        obtain ⟨sa, sc, fa, fc, ga, gc, o7⟩ := FlowR.iff.1 o6
        have c2 := o7.cell 2
        have hbl := o7.celLt
        have oA := ((o7.alloc (.cells #[.int .i64 (T.S.length : Int), .string n, .int .i64 x, .int .i64 q] 64)).drew).up 2
        have sN := news_row (size := 4) (vs := [.int .i64 (T.S.length : Int), .string n, .int .i64 x, .int .i64 q]) rfl (by intro u hu; simp at hu; rcases hu with rfl | rfl | rfl | rfl <;> rfl) (oA.up 1)
        go_upto_region 8 with fail
        go_region_law (first
          | (refine step_append_src rfl _ _ rfl Tryd.staT rfl oA rfl sN M1.out M2.out ?_; intro a8 c8 w8 o8 k8; have z2 := (o8.up 2).cell 2; have zf := (o8.up 2).frozen; have zl := (o8.up 2).celLt))
        all_goals
          have oS := (o8.up 2).setCell 2 (.slice a8 (T.S.length + 1) c8)
          have y2 := oS.cell 2
          have hwr : IntKind.i64.wrap ((T.S.length : Int) + 1 - 1) = (T.S.length : Int) := by rw [IntKind.wrap_i64]; omega
          go_wp2
          go_ret2
          have e3 : flat staC T.S ++ [.int .i64 (T.S.length : Int), .string n, .int .i64 x, .int .i64 q] = flat staC (T.S ++ [⟨T.S.length, n, x, q⟩]) := by rw [flat_append]; rfl
          rw [e3] at oS
          refine ⟨rfl, FlowR.iff.2 ⟨a8, c8, fa, fc, ga, gc, ?_⟩, Calm.trans (k4.trans k6) ⟨k8.os, k8.tape, k8.output⟩⟩
          rw [show ({ T with S := T.S ++ [⟨T.S.length, n, x, q⟩] } : Tab).S.length = T.S.length + 1 from by simp]
          exact oS.re [2, 0, 1, 3, 4] 1

set_option maxHeartbeats 3200000 in
set_option maxRecDepth 100000 in
theorem addFlowR_spec (s x : Int) (hT : T.Ok) (o : Own w (FlowR r T :: R)) :
    Calls Tryd.prog 29 #[.pointer (some ⟨r, 0, none⟩), .int .i64 s, .int .i64 x] w (AddR r (floT T s x) (floId T s x) (floErr T s x) R w) := by
  have hsl := hT.sl
  have hfl := hT.fl
  have htr := totF_range T.F hT.fwt
  have hcap := hT.cap
  have htot := totalR_spec hT o.drew
  obtain ⟨sa, sc, fa, fc, ga, gc, o1⟩ := FlowR.iff.1 o
  have c2 := o1.cell 2
  have c3 := o1.cell 3
  have c0 := o1.cell 0
  have hwt := goodWeight_spec (w := w) x
  by_cases h1 : s < 0 ∨ (T.S.length : Int) ≤ s
  · have hE : floErr T s x = 6 := by unfold floErr; rw [if_pos h1]
    obtain ⟨e2, e3⟩ := addFlow_err hE (by omega)
    rw [hE, e2, e3]
    clear hE e2 e3 hwt htot
    rcases h1 with h1 | h1
    · go_enter Tryd.func29, Tryd.ntmps29
      go_wp2
      go_ret2
      exact ⟨rfl, o, Calm.refl w⟩
    · have h2 : ¬ s < 0 := by omega
      go_enter Tryd.func29, Tryd.ntmps29
      go_wp2
      go_ret2
      exact ⟨rfl, o, Calm.refl w⟩
  have g1 : decide (s < 0) = false := decide_eq_false (by omega)
  have g2 : decide ((T.S.length : Int) ≤ s) = false := decide_eq_false (by omega)
  by_cases h2 : badW x
  · have hE : floErr T s x = 1 := by unfold floErr; rw [if_neg h1, if_pos h2]
    obtain ⟨e2, e3⟩ := addFlow_err hE (by omega)
    rw [hE, e2, e3]
    rw [decide_eq_false (by unfold badW at h2; exact h2)] at hwt
    clear hE e2 e3 h1 h2 htot
    go_enter Tryd.func29, Tryd.ntmps29
    go_wp2_with fail
    refine hwt.mono ?_
    rintro e4 w4 ⟨rfl, rfl⟩
    go_wp2
    go_ret2
    exact ⟨rfl, o, Calm.refl w⟩
  have hx : 1 ≤ x ∧ x ≤ 16 := by unfold badW at h2; omega
  rw [decide_eq_true hx] at hwt
  by_cases h3 : T.F.length = 32
  · have hE : floErr T s x = 4 := by unfold floErr; rw [if_neg h1, if_neg h2, if_pos h3]
    obtain ⟨e2, e3⟩ := addFlow_err hE (by omega)
    rw [hE, e2, e3]
    have h3' : (32 : Int) ≤ (T.F.length : Int) := by omega
    clear hE e2 e3 h1 h2 h3 htot
    go_enter Tryd.func29, Tryd.ntmps29
    go_wp2_with fail
    refine hwt.mono ?_
    rintro e4 w4 ⟨rfl, rfl⟩
    go_wp2
    go_ret2
    exact ⟨rfl, o, Calm.refl w⟩
  have g3 : (T.F.length : Int) < 32 := by omega
  have hwr : IntKind.i64.wrap (totF T.F + x) = totF T.F + x := by rw [IntKind.wrap_i64]; omega
  have ct := IsRet.still htot
  by_cases h4 : T.cap < totF T.F + x
  · have hE : floErr T s x = 12 := by unfold floErr; rw [if_neg h1, if_neg h2, if_neg h3, if_pos h4]
    obtain ⟨e2, e3⟩ := addFlow_err hE (by omega)
    rw [hE, e2, e3]
    have g4 : decide (T.cap < totF T.F + x) = true := decide_eq_true h4
    clear hE e2 e3 h1 h2 h3 h4
    go_enter Tryd.func29, Tryd.ntmps29
    go_wp2_with fail
    refine hwt.mono ?_
    rintro e4 w4 ⟨rfl, rfl⟩
    go_wp2
    refine wp_region_tail 8 (by kernel_rfl) (by kernel_rfl) ?_
    simp only [List.take_succ_cons, List.take_zero, List.drop_succ_cons, List.drop_zero]
    repeat (first | still_step | still_call ct)
    refine wpStill_nil ?_
    go_wp2
    go_ret2
    exact ⟨rfl, o.drew, ⟨rfl, rfl, rfl⟩⟩
  have g4 : decide (T.cap < totF T.F + x) = false := decide_eq_false h4
  have hE : floErr T s x = 0 := by unfold floErr; rw [if_neg h1, if_neg h2, if_neg h3, if_neg h4]
  have e2 : floId T s x = T.F.length := by unfold floId; rw [hE]; rfl
  have e3 : floT T s x = { T with F := T.F ++ [(newF T s x, true)] } := by unfold floT; rw [hE]; rfl
  rw [hE, e2, e3]
  clear hE e2 e3 h1 h2 h3 h4
  have hbl := o1.celLt
  have hfr := o1.frozen
  have M1 : Hid (T.F.length + 1 ≤ maxLen) := Lib.hid (by unfold maxLen; omega)
  have M2 : Hid ((T.F.length + 1) * 56 ≤ 140737488355328) := Lib.hid (by omega)
  have oA := ((o1.alloc (.cells #[.int .i64 (T.F.length : Int), .int .i64 s, .int .i64 x, .int .i64 64, .int .i64 262144, .int .i64 1099511627776, .int .i64 1099511627776] 67)).drew).drew.up 3
  have sN := news_row (size := 7) (vs := [.int .i64 (T.F.length : Int), .int .i64 s, .int .i64 x, .int .i64 64, .int .i64 262144, .int .i64 1099511627776, .int .i64 1099511627776]) rfl (by intro u hu; simp at hu; rcases hu with rfl | rfl | rfl | rfl | rfl | rfl | rfl <;> rfl) (oA.up 1)
  go_enter Tryd.func29, Tryd.ntmps29
  go_wp2_with fail
  refine hwt.mono ?_
  rintro e4 w4 ⟨rfl, rfl⟩
  go_wp2
  refine wp_region_tail 8 (by kernel_rfl) (by kernel_rfl) ?_
  simp only [List.take_succ_cons, List.take_zero, List.drop_succ_cons, List.drop_zero]
  repeat (first | still_step | still_call ct)
  refine wpStill_nil ?_
  go_upto_region 9 with fail
  go_region_law (first
    | (refine step_append_src rfl _ _ rfl Tryd.floT rfl oA rfl sN M1.out M2.out ?_; intro a8 c8 w8 o8 k8; have z2 := (o8.up 2).cell 3; have zf := (o8.up 2).frozen; have zl := (o8.up 2).celLt))
  all_goals
    have oS := (o8.up 2).setCell 3 (.slice a8 (T.F.length + 1) c8)
    have y4 := oS.cell 4
    have oG := (oS.alloc (.cells #[.bool false] 4)).up 5
    go_wp2_with (at_builtin; refine wpList_append_slc rfl _ _ rfl Tryd.boolT rfl oG ⟨w8.heap.size, 0, none⟩ 1 1 [.bool false] rfl rfl ?d1 ?d2 ?d3 ?d4 ?d5)
    case d1 =>
      have oB := oS.alloc (.cells #[.bool false] 4)
      have hsz : (w8.setCell ⟨r, 3, none⟩ (.slice a8 (T.F.length + 1) c8)).heap.size = w8.heap.size := by simp
      rw [hsz] at oB
      exact Own.news (T := 4) oB
    case d2 => intro u hu; simp at hu; rcases hu with rfl; rfl
    case d3 => unfold maxLen; omega
    case d4 => omega
    case d5 =>
      intro a9 c9 w9 o9 k9
      have q := o9.up 2
      have q4 := q.cell 4
      have q3 := q.cell 3
      have qf := q.frozen
      have ql := q.celLt
      have oT := q.setCell 4 (.slice a9 (T.F.length + 1) c9)
      have p3 := oT.cell 3
      have hwr2 : IntKind.i64.wrap ((T.F.length : Int) + 1 - 1) = (T.F.length : Int) := by rw [IntKind.wrap_i64]; omega
      go_wp2
      go_ret2
      have e3 : flat floC (T.F.map (·.1)) ++ [.int .i64 (T.F.length : Int), .int .i64 s, .int .i64 x, .int .i64 64, .int .i64 262144, .int .i64 1099511627776, .int .i64 1099511627776] = flat floC ((T.F ++ [(newF T s x, true)]).map (·.1)) := by rw [List.map_append, flat_append]; rfl
      have e4 : T.F.map goneV ++ [.bool false] = (T.F ++ [(newF T s x, true)]).map goneV := by rw [List.map_append]; rfl
      rw [e3, e4] at oT
      refine ⟨rfl, FlowR.iff.2 ⟨sa, sc, a8, c8, a9, c9, ?_⟩, Calm.trans ⟨k8.os, k8.tape, k8.output⟩ ⟨k9.os, k9.tape, k9.output⟩⟩
      rw [show ({ T with F := T.F ++ [(newF T s x, true)] } : Tab).F = T.F ++ [(newF T s x, true)] from rfl, List.length_append]
      exact oT.re [2, 4, 0, 5, 3, 1] 2
end
end Go.Proofs.YtladamlfbdbdgaaDoor
