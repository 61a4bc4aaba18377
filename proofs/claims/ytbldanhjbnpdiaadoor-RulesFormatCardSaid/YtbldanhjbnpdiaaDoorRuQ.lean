/- RulesFormat: the walk. -/
import Derived.Test.YtbldanhjbnpdiaaDoorRuN
import Derived.Test.YtbldanhjbnpdiaaDoorRuO
import Derived.Test.YtbldanhjbnpdiaaDoorRuJ
import Derived.Deep.RegionHeld3
import Derived.Laws.Rows
namespace Go.Proofs.YtbldanhjbnpdiaaDoor
open Go.RowKit
open Go.Shelf
open SP
section
variable {W w w' : World} {R : List SP}
set_option maxHeartbeats 25600000 in
set_option maxRecDepth 100000 in
theorem rulesFormat_walk (a0 : Option Addr) (len0 cap0 : Nat) (z0 : List Int) (q : Ru) (w : World) (w0 : IsRow .i64 w a0 len0 cap0 z0) (hT : TabsP w) (hm : MaxV w) :
    Calls Tryd.prog 4 #[.slice a0 len0 cap0, ruV q] w fun e w' => e = .returned (.bool true) ∧ Below w.heap.size w w' := by
  have oW := (Own.start w).alloc (.cells #[.string (mkB q.st), .int .i64 q.cls, .int .i64 q.first, .int .i64 q.last, .int .i64 q.flow] 29)
  have PF := Lib.hid fun (r : Ru) (hs : r.st.length ≤ 2000000) (w1 : World) (R : List SP) (o1 : Own w1 (old w :: R)) => ruFormat_spec r hs hT o1
  have RF := Lib.hid fun (r : Ru) (hs : r.st.length ≤ 2000000) (w1 : World) (R : List SP) (o1 : Own w1 R) => refFormat_spec r hs o1
  have PV := Lib.hid fun (r : Ru) (hs : r.st.length ≤ 2000000) (w1 : World) (R : List SP) (o1 : Own w1 R) => ruValid_spec r hs o1
  have RV := Lib.hid fun (r : Ru) (hs : r.st.length ≤ 2000000) (w1 : World) (R : List SP) (o1 : Own w1 R) => refValidRu_spec r hs o1
  have PP := Lib.hid fun (s : ByteArray) (hs : s.size ≤ 1000000) (w1 : World) (R : List SP) (o1 : Own w1 (old w :: R)) => ruParse_spec s hs hm o1
  have HA := Lib.hid fun (w1 : World) (R : List SP) (o1 : Own w1 (old w :: R)) => awake9_spec hm o1
  clear hT hm
  have qf := Lib.hid fun (hs : q.st.length ≤ 2000000) => PF.out q hs
  have qr := Lib.hid fun (hs : q.st.length ≤ 2000000) => RF.out q hs
  have qv := Lib.hid fun (hs : q.st.length ≤ 2000000) => PV.out q hs
  have qw := Lib.hid fun (hs : q.st.length ≤ 2000000) => RV.out q hs
  obtain ⟨Fs, Fe, hF⟩ : ∃ Fs Fe, fmtV q = .tuple #[.string Fs, .int .i64 Fe] := ⟨_, _, rfl⟩
  rw [hF] at qf qr
  obtain ⟨z, hz⟩ : ∃ z, ruOK q = z := ⟨_, rfl⟩
  rw [hz] at qv qw
  clear hF hz
  unfold ruV at qf qr qv qw ⊢
  have hlen : (mkB q.st).size = q.st.length := mkB_size _
  obtain ⟨QS, eq0⟩ : ∃ S, mkB q.st = S := ⟨_, rfl⟩
  rw [eq0] at oW qf qr qv qw hlen ⊢
  generalize q.cls = qc at *
  generalize q.first = qfi at *
  generalize q.last = ql at *
  generalize q.flow = qy at *
  generalize q.st = qst at *
  clear eq0
  go_enter Tryd.func4, Tryd.ntmps4
  go_wp2_with fail
  refine (genNew_spec a0 len0 cap0 z0 (w0) (oW.up 1)).mono ?_
  rintro e1 v1 ⟨cb, rfl, o1, k1⟩
  have k1 := k1.al
  go_wp2_with fail
  refine (genRule_spec 0 (by omega) o1).mono ?_
  rintro e2 v2 ⟨r, hr, rfl, o2, k2⟩
  have K2 := k1.trans k2
  generalize w.heap.size = b3 at *
  have hrl : r.st.length ≤ 2000000 := by have := hr.len; omega
  have hfl := fmtR_len hr.ok
  have p1 := Lib.hid (PF.out r hrl)
  have p2 := Lib.hid (RF.out r hrl)
  have p3 := Lib.hid (PV.out r hrl)
  have p4 := Lib.hid (PP.out (mkB (fmtR r)) (by rw [mkB_size]; omega))
  have hfv : fmtV r = .tuple #[.string (mkB (fmtR r)), .int .i64 0] := by unfold fmtV; rw [hr.ok]; rfl
  rw [hfv] at p1 p2
  rw [hr.ok] at p3
  rw [mkB_data, round_trip hr.ok hr.sp hr.star] at p4
  unfold prV at p4
  unfold ruV at p1 p2 p3 p4 ⊢
  dsimp only at p4
  clear hfv hfl hrl hr PF RF PV RV PP o1 k1 k2 oW
  generalize mkB (fmtR r) = X at *
  generalize mkB r.st = S at *
  generalize r.cls = c at *
  generalize r.first = f at *
  generalize r.last = l at *
  generalize r.flow = y at *
  have o3 := o2.alloc (.cells #[.string S, .int .i64 c, .int .i64 f, .int .i64 l, .int .i64 y] 29)
  go_wp2_with fail
  refine (p1.out _ _ (o3.up 2)).mono ?_
  rintro e3 v3 ⟨rfl, o4, k4⟩
  generalize v2.heap.size = b5 at *
  go_wp2_with fail
  refine (p4.out _ _ o4).mono ?_
  rintro e4 v4 ⟨rfl, o5, k5⟩
  have o6 := o5.alloc (.cells #[.string S, .int .i64 c, .int .i64 f, .int .i64 l, .int .i64 y] 29)
  have x0 := (o5.up 1).cell 0
  have x1 := (o5.up 1).cell 1
  have x2 := (o5.up 1).cell 2
  have x3 := (o5.up 1).cell 3
  have x4 := (o5.up 1).cell 4
  have xl := Own.celLt (T := 29) (o5.up 1)
  go_wp2_with fail
  refine (p2.out _ _ o6).mono ?_
  rintro e5 v5 ⟨rfl, o7, k7⟩
  generalize v4.heap.size = b8 at *
  clear x0 x1 x2 x3 x4 xl
  have x0 := (o7.up 2).cell 0
  have x1 := (o7.up 2).cell 1
  have x2 := (o7.up 2).cell 2
  have x3 := (o7.up 2).cell 3
  have x4 := (o7.up 2).cell 4
  have y0 := o7.cell 0
  have y1 := o7.cell 1
  have y2 := o7.cell 2
  have y3 := o7.cell 3
  have y4 := o7.cell 4
  go_wp2_with fail
  refine (p3.out _ _ o7).mono ?_
  rintro e6 v6 ⟨rfl, o8, k8⟩
  have K8 : Calm w v6 := ((((K2.trans (Calm.al k4)).trans k5).trans (Calm.al k7)).trans k8)
  clear x0 x1 x2 x3 x4 y0 y1 y2 y3 y4 p1 p2 p3 p4 o2 o3 o4 o5 o6 o7 K2 k4 k5 k7 k8
  have o9 := (o8.re [1, 4])
  have u0 := (o9.up 1).cell 0
  have u1 := (o9.up 1).cell 1
  have u2 := (o9.up 1).cell 2
  have u3 := (o9.up 1).cell 3
  have u4 := (o9.up 1).cell 4
  by_cases hlt : 100 < QS.size
  · have dl : decide (100 < QS.size) = true := decide_eq_true hlt
    go_wp2_with fail
    refine (HA.out _ _ o9).mono ?_
    rintro e7 v7 ⟨rfl, o10, k10⟩
    go_wp2
    go_ret
    exact ⟨rfl, o10.below (K8.trans k10)⟩
  · have dl : decide (100 < QS.size) = false := decide_eq_false hlt
    have hql : qst.length ≤ 2000000 := by omega
    have f1 := Lib.hid (qf.out hql)
    have f2 := Lib.hid (qr.out hql)
    have f3 := Lib.hid (qv.out hql)
    have f4 := Lib.hid (qw.out hql)
    clear qf qr qv qw hlen hql
    go_wp2_with fail
    refine (f1.out _ _ o9).mono ?_
    rintro e7 v7 ⟨rfl, o10, k10⟩
    clear u0 u1 u2 u3 u4
    have u0 := (o10.up 1).cell 0
    have u1 := (o10.up 1).cell 1
    have u2 := (o10.up 1).cell 2
    have u3 := (o10.up 1).cell 3
    have u4 := (o10.up 1).cell 4
    go_wp2_with fail
    refine (f2.out _ _ o10).mono ?_
    rintro e8 v8 ⟨rfl, o11, k11⟩
    clear u0 u1 u2 u3 u4
    have u0 := (o11.up 1).cell 0
    have u1 := (o11.up 1).cell 1
    have u2 := (o11.up 1).cell 2
    have u3 := (o11.up 1).cell 3
    have u4 := (o11.up 1).cell 4
    go_wp2
    go_region_held3 (fun wx => wx.cell? ⟨b3, 0, none⟩ = some (.string QS) ∧ wx.cell? ⟨b3, 1, none⟩ = some (.int .i64 qc) ∧ wx.cell? ⟨b3, 2, none⟩ = some (.int .i64 qfi) ∧ wx.cell? ⟨b3, 3, none⟩ = some (.int .i64 ql) ∧ wx.cell? ⟨b3, 4, none⟩ = some (.int .i64 qy)) (go_keep) (first
      | (go_at_call 14; refine (f3.out _ _ o11.drew).mono ?_; rintro e9 v9 ⟨rfl, o12, k12⟩; have q0 := (o12.up 1).cell 0; have q1 := (o12.up 1).cell 1; have q2 := (o12.up 1).cell 2; have q3 := (o12.up 1).cell 3; have q4 := (o12.up 1).cell 4)
      | (go_at_call 15; refine (f4.out _ _ o12).mono ?_; rintro e10 v10 ⟨rfl, o13, k13⟩; have q0 := (o13.up 1).cell 0; have q1 := (o13.up 1).cell 1; have q2 := (o13.up 1).cell 2; have q3 := (o13.up 1).cell 3; have q4 := (o13.up 1).cell 4)
      | (go_at_call 11; refine (HA.out _ _ o13).mono ?_; rintro e11 v11 ⟨rfl, o14, k14⟩; have q0 := (o14.up 1).cell 0; have q1 := (o14.up 1).cell 1; have q2 := (o14.up 1).cell 2; have q3 := (o14.up 1).cell 3; have q4 := (o14.up 1).cell 4))
    all_goals go_wp2
    all_goals go_ret
    all_goals exact ⟨by simp, o14.below (K8.trans (k10.trans (k11.trans (Calm.trans ⟨k12.os, k12.tape, k12.output⟩ (k13.trans k14)))))⟩
end
end Go.Proofs.YtbldanhjbnpdiaaDoor
