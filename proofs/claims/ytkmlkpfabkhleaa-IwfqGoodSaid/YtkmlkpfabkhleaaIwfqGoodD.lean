/- Texts that the law rests on, put together by a program. -/
import Derived.Test.YtkmlkpfabkhleaaIwfqGoodC
import Derived.Test.YtkmlkpfabkhleaaIwfqGoodB
import Derived.Deep.RegionLaw
import Derived.Shelf.SlSortCmp.NoneTotal
import Derived.Test.YtkmlkpfabkhleaaProg
/- The choice of cifq: the slot's flow takes it back; nobody sends. -/
namespace Go.Proofs.Ytkmlkpfabkhleaa
open Go.RowKit
open SP
section
variable {W w w' : World} {R : List SP} {b rp lp cp xp nb N : Nat} {num den reb : Int} {S : St} {D : List Tg} {C X : Ord} {m : List (Int × (Int × Int))}

set_option maxHeartbeats 3200000 in
set_option maxRecDepth 100000 in
theorem choose_back {nu de cr cl : Nat} (hnu : nu < 4194304) (hde : de < 4194304) (hcr : cr < 1099511627776) (hcl : cl < 1099511627776) (hc : cntO m (selT S.L).1 = ((cr : Int), (cl : Int))) {Sp : SP} {a : Option Addr} {n c : Nat} {H : List Head} {so : Bool} (h1 : HeadsAt Sp a H) (hn : n = H.length) (hl : n ≤ 32) (hk : ∃ h ∈ H, h.f = (selT S.L).1)
    (hg : (headOf H (selT S.L).1).good = true) (hld : decide (lagO D (selT S.L).1 < 0) = true) (hkp : keepsO (nu : Int) (de : Int) (cntO m (selT S.L).1) = false) (hC : OrdOk C) (hj : leastF C.el C.tg < 0) (o : Own w (ChoPool b (nu : Int) (de : Int) rp lp cp xp nb N reb S D C X m Sp R)) :
    Calls Try.prog 35 #[.pointer (some ⟨b, 0, none⟩), .slice a n c, .bool so] w (Ret (chV ⟨(selT S.L).1, (selT S.L).1, 1⟩) (ChoPool b (nu : Int) (de : Int) rp lp cp xp nb N reb S D C X m Sp R) w) := by
  unfold chV
  dsimp only
  have c2 := o.cell 2
  have hlt := o.celLt
  obtain ⟨i, hi, hix⟩ := headOf_idx hk
  have hin : i < n := by have := (List.getElem?_eq_some_iff.1 hi).1; omega
  have HI := Lib.hid hi
  have Hn := Lib.hid hn
  have oA := o.alloc (.cells #[.int .i64 0, .int .i64 0, .int .i64 0] 33)
  have hsel := sfqSelect_spec (oA.up 2)
  have HLD := Lib.hid hld
  have HKP := Lib.hid hkp
  have HC := Lib.hid hc
  obtain ⟨K, hK⟩ : ∃ K, headOf H (selT S.L).1 = K := ⟨_, rfl⟩
  rw [hK] at hg HI
  generalize (selT S.L).1 = k at *
  generalize (selT S.L).2 = e at *
  clear hi hn hk hld hK hkp hc
  go_enter Try.func35, Try.ntmps35
  go_wp2_with fail
  refine hsel.mono ?_
  rintro e1 w1 ⟨rfl, o1, k1⟩
  clear hsel
  have hidx := cqIndex_spec (f := k) (c := c) h1 Hn.out (by omega) (o1.up 7)
  rw [hix] at hidx
  go_wp2_with fail
  refine hidx.mono ?_
  rintro e2 w2 ⟨rfl, o2, k2⟩
  clear hidx hix
  obtain ⟨g, rfl, d0, d1, d2⟩ := h1 _ _ o2 i _ HI.out
  rw [hg] at d2
  have o3 := (o2.alloc (.cells #[.int .i64 k, .int .i64 k, .int .i64 1] 33)).re [4, 5, 0, 1, 2, 3]
  have hlead := leading_spec k o3
  rw [HLD.out] at hlead
  go_wp2_with fail
  refine hlead.mono ?_
  rintro e3 w3 ⟨rfl, o4, k3⟩
  clear hlead
  have hkeep := keeps_spec k hnu hde hcr hcl HC.out (o4.re [0, 6, 1, 2, 3, 4, 5])
  rw [HKP.out] at hkeep
  go_wp2_with fail
  refine hkeep.mono ?_
  rintro e4 w4 ⟨rfl, o4', k4⟩
  clear hkeep
  have hsel2 := select_spec hC.key hC.len (o4'.up 7)
  have x4 := o4'.cell 4
  have hsv : selV C.el C.tg = .tuple #[.int .i64 0, .int .i64 5] := by unfold selV; rw [if_pos hj]
  rw [hsv] at hsel2
  clear hsv
  clear hj
  go_wp2_with fail
  refine hsel2.mono ?_
  rintro e5 w5 ⟨rfl, o8, k5⟩
  clear hsel2
  have y0 := Own.cell (T := 33) (vs := [.int .i64 k, .int .i64 k, .int .i64 1]) (o8.up 4) 0
  have y1 := Own.cell (T := 33) (vs := [.int .i64 k, .int .i64 k, .int .i64 1]) (o8.up 4) 1
  have y2 := Own.cell (T := 33) (vs := [.int .i64 k, .int .i64 k, .int .i64 1]) (o8.up 4) 2
  have z0 := Own.cell (T := 33) (vs := [.int .i64 0, .int .i64 0, .int .i64 0]) (o8.up 7) 0
  have z1 := Own.cell (T := 33) (vs := [.int .i64 0, .int .i64 0, .int .i64 0]) (o8.up 7) 1
  have z2 := Own.cell (T := 33) (vs := [.int .i64 0, .int .i64 0, .int .i64 0]) (o8.up 7) 2
  have zf := Own.frozen (T := 33) (vs := [.int .i64 0, .int .i64 0, .int .i64 0]) (o8.up 7)
  have zl := Own.celLt (T := 33) (vs := [.int .i64 0, .int .i64 0, .int .i64 0]) (o8.up 7)
  have o5 := Own.setCell (T := 33) (vs := [.int .i64 0, .int .i64 0, .int .i64 0]) (o8.up 7) 0 (.int .i64 k)
  have o6 := Own.setCell (T := 33) (vs := [.int .i64 k, .int .i64 0, .int .i64 0]) o5 1 (.int .i64 k)
  have o7 := Own.setCell (T := 33) (vs := [.int .i64 k, .int .i64 k, .int .i64 0]) o6 2 (.int .i64 1)
  go_wp2
  refine bodyPost_ret (v := .agg #[.int .i64 k, .int .i64 k, .int .i64 1]) ?_ rfl ?_
  · exact chRow (p := w.heap.size) rfl rfl o7
  · exact ⟨rfl, ((o7.drop).up 4).drop.re [1, 5, 3, 2, 0, 6, 4], ⟨k5.os.trans (k4.os.trans (k3.os.trans (k2.os.trans k1.os))), k5.tape.trans (k4.tape.trans (k3.tape.trans (k2.tape.trans k1.tape))), k5.output.trans (k4.output.trans (k3.output.trans (k2.output.trans k1.output)))⟩⟩
set_option maxHeartbeats 3200000 in
set_option maxRecDepth 100000 in
theorem choose_idle {Sp : SP} {a : Option Addr} {n c : Nat} {H : List Head} (h1 : HeadsAt Sp a H) (hn : n = H.length) (hl : n ≤ 32) (hk : ∃ h ∈ H, h.f = (selT S.L).1)
    (hg : (headOf H (selT S.L).1).good = false) (hC : OrdOk C) (hj : leastF C.el C.tg < 0) (o : Own w (ChoPool b num den rp lp cp xp nb N reb S D C X m Sp R)) :
    Calls Try.prog 35 #[.pointer (some ⟨b, 0, none⟩), .slice a n c, .bool false] w (Ret (chV chIdle) (ChoPool b num den rp lp cp xp nb N reb S D C X m Sp R) w) := by
  unfold chV chIdle
  dsimp only
  have c2 := o.cell 2
  have hlt := o.celLt
  obtain ⟨i, hi, hix⟩ := headOf_idx hk
  have hin : i < n := by have := (List.getElem?_eq_some_iff.1 hi).1; omega
  have HI := Lib.hid hi
  have Hn := Lib.hid hn
  have oA := o.alloc (.cells #[.int .i64 0, .int .i64 0, .int .i64 0] 33)
  have hsel := sfqSelect_spec (oA.up 2)
  obtain ⟨K, hK⟩ : ∃ K, headOf H (selT S.L).1 = K := ⟨_, rfl⟩
  rw [hK] at hg HI
  generalize (selT S.L).1 = k at *
  generalize (selT S.L).2 = e at *
  clear hi hn hk hK
  go_enter Try.func35, Try.ntmps35
  go_wp2_with fail
  refine hsel.mono ?_
  rintro e1 w1 ⟨rfl, o1, k1⟩
  clear hsel
  have hidx := cqIndex_spec (f := k) (c := c) h1 Hn.out (by omega) (o1.up 7)
  rw [hix] at hidx
  go_wp2_with fail
  refine hidx.mono ?_
  rintro e2 w2 ⟨rfl, o2, k2⟩
  clear hidx hix
  obtain ⟨g, rfl, d0, d1, d2⟩ := h1 _ _ o2 i _ HI.out
  rw [hg] at d2
  have o3 := (o2.alloc (.cells #[.int .i64 k, .int .i64 k, .int .i64 1] 33)).up 7
  have hlead := select_spec hC.key hC.len o3
  have x4 := (o3.up 5).cell 4
  have hsv : selV C.el C.tg = .tuple #[.int .i64 0, .int .i64 5] := by unfold selV; rw [if_pos hj]
  rw [hsv] at hlead
  clear hsv
  clear hj
  go_wp2_with fail
  refine hlead.mono ?_
  rintro e3 w3 ⟨rfl, o4, k3⟩
  clear hlead
  have y0 := Own.cell (T := 33) (vs := [.int .i64 k, .int .i64 k, .int .i64 1]) (o4.up 1) 0
  have y1 := Own.cell (T := 33) (vs := [.int .i64 k, .int .i64 k, .int .i64 1]) (o4.up 1) 1
  have y2 := Own.cell (T := 33) (vs := [.int .i64 k, .int .i64 k, .int .i64 1]) (o4.up 1) 2
  have z0 := Own.cell (T := 33) (vs := [.int .i64 0, .int .i64 0, .int .i64 0]) (o4.up 4) 0
  have z1 := Own.cell (T := 33) (vs := [.int .i64 0, .int .i64 0, .int .i64 0]) (o4.up 4) 1
  have z2 := Own.cell (T := 33) (vs := [.int .i64 0, .int .i64 0, .int .i64 0]) (o4.up 4) 2
  have zf := Own.frozen (T := 33) (vs := [.int .i64 0, .int .i64 0, .int .i64 0]) (o4.up 4)
  have zl := Own.celLt (T := 33) (vs := [.int .i64 0, .int .i64 0, .int .i64 0]) (o4.up 4)
  have o5 := Own.setCell (T := 33) (vs := [.int .i64 0, .int .i64 0, .int .i64 0]) (o4.up 4) 0 (.int .i64 (-1))
  have o6 := Own.setCell (T := 33) (vs := [.int .i64 (-1), .int .i64 0, .int .i64 0]) o5 1 (.int .i64 (-1))
  have o7 := Own.setCell (T := 33) (vs := [.int .i64 (-1), .int .i64 (-1), .int .i64 0]) o6 2 (.int .i64 6)
  go_wp2
  refine bodyPost_ret (v := .agg #[.int .i64 (-1), .int .i64 (-1), .int .i64 6]) ?_ rfl ?_
  · exact chRow (p := w.heap.size) rfl rfl o7
  · exact ⟨rfl, ((o7.drop).up 1).drop.re [3, 2, 4, 5, 0, 6, 1], ⟨k3.os.trans (k2.os.trans k1.os), k3.tape.trans (k2.tape.trans k1.tape), k3.output.trans (k2.output.trans k1.output)⟩⟩
end
end Go.Proofs.Ytkmlkpfabkhleaa

/- The choice of cifq: a slot that nobody is owed. -/
namespace Go.Proofs.Ytkmlkpfabkhleaa
open Go.RowKit
open SP
section
variable {W w w' : World} {R : List SP} {b rp lp cp xp nb N : Nat} {num den reb : Int} {S : St} {D : List Tg} {C X : Ord} {m : List (Int × (Int × Int))}

set_option maxHeartbeats 3200000 in
set_option maxRecDepth 100000 in
theorem choose_excess {Sp : SP} {a : Option Addr} {n c : Nat} {H : List Head} (h1 : HeadsAt Sp a H) (hn : n = H.length) (hl : n ≤ 32) (hk : ∃ h ∈ H, h.f = (selT S.L).1)
    (hg : (headOf H (selT S.L).1).good = false) (hC : OrdOk C) (hX : OrdOk X) (hj : leastF C.el C.tg < 0) (o : Own w (ChoPool b num den rp lp cp xp nb N reb S D C X m Sp R)) :
    Calls Try.prog 35 #[.pointer (some ⟨b, 0, none⟩), .slice a n c, .bool true] w (Ret (chV ⟨(selT S.L).1, if 0 ≤ leastF X.el X.tg then leastF X.el X.tg else 0, 4⟩) (ChoPool b num den rp lp cp xp nb N reb S D C X m Sp R) w) := by
  unfold chV
  dsimp only
  have c2 := o.cell 2
  have hlt := o.celLt
  obtain ⟨i, hi, hix⟩ := headOf_idx hk
  have hin : i < n := by have := (List.getElem?_eq_some_iff.1 hi).1; omega
  have HI := Lib.hid hi
  have Hn := Lib.hid hn
  have oA := o.alloc (.cells #[.int .i64 0, .int .i64 0, .int .i64 0] 33)
  have hsel := sfqSelect_spec (oA.up 2)
  obtain ⟨K, hK⟩ : ∃ K, headOf H (selT S.L).1 = K := ⟨_, rfl⟩
  rw [hK] at hg HI
  generalize (selT S.L).1 = k at *
  generalize (selT S.L).2 = e at *
  clear hi hn hk hK
  have hse : ∃ code, selV X.el X.tg = .tuple #[.int .i64 (if 0 ≤ leastF X.el X.tg then leastF X.el X.tg else 0), .int .i64 code] := by
    unfold selV
    by_cases h : leastF X.el X.tg < 0
    · rw [if_pos h, if_neg (by omega)]; exact ⟨_, rfl⟩
    · rw [if_neg h, if_pos (by omega)]; exact ⟨_, rfl⟩
  have HSE := Lib.hid hse
  clear hse
  generalize (if 0 ≤ leastF X.el X.tg then leastF X.el X.tg else 0) = jj at *
  go_enter Try.func35, Try.ntmps35
  go_wp2_with fail
  refine hsel.mono ?_
  rintro e1 w1 ⟨rfl, o1, k1⟩
  clear hsel
  have hidx := cqIndex_spec (f := k) (c := c) h1 Hn.out (by omega) (o1.up 7)
  rw [hix] at hidx
  go_wp2_with fail
  refine hidx.mono ?_
  rintro e2 w2 ⟨rfl, o2, k2⟩
  clear hidx hix
  obtain ⟨g, rfl, d0, d1, d2⟩ := h1 _ _ o2 i _ HI.out
  rw [hg] at d2
  have o3 := (o2.alloc (.cells #[.int .i64 k, .int .i64 k, .int .i64 1] 33)).up 7
  have hlead := select_spec hC.key hC.len o3
  have x4 := (o3.up 5).cell 4
  have hsv : selV C.el C.tg = .tuple #[.int .i64 0, .int .i64 5] := by unfold selV; rw [if_pos hj]
  rw [hsv] at hlead
  clear hsv
  clear hj
  go_wp2_with fail
  refine hlead.mono ?_
  rintro e3 w3 ⟨rfl, o4, k3⟩
  clear hlead
  have hsel2 := select_spec hX.key hX.len (o4.up 8)
  have x5 := (o4.up 5).cell 5
  obtain ⟨code, hcode⟩ := HSE.out
  rw [hcode] at hsel2
  clear hcode HSE
  go_wp2_with fail
  refine hsel2.mono ?_
  rintro e6 w6 ⟨rfl, o9, k6⟩
  clear hsel2
  have y0 := Own.cell (T := 33) (vs := [.int .i64 k, .int .i64 k, .int .i64 1]) (o9.up 2) 0
  have y1 := Own.cell (T := 33) (vs := [.int .i64 k, .int .i64 k, .int .i64 1]) (o9.up 2) 1
  have y2 := Own.cell (T := 33) (vs := [.int .i64 k, .int .i64 k, .int .i64 1]) (o9.up 2) 2
  have z0 := Own.cell (T := 33) (vs := [.int .i64 0, .int .i64 0, .int .i64 0]) (o9.up 5) 0
  have z1 := Own.cell (T := 33) (vs := [.int .i64 0, .int .i64 0, .int .i64 0]) (o9.up 5) 1
  have z2 := Own.cell (T := 33) (vs := [.int .i64 0, .int .i64 0, .int .i64 0]) (o9.up 5) 2
  have zf := Own.frozen (T := 33) (vs := [.int .i64 0, .int .i64 0, .int .i64 0]) (o9.up 5)
  have zl := Own.celLt (T := 33) (vs := [.int .i64 0, .int .i64 0, .int .i64 0]) (o9.up 5)
  have o5 := Own.setCell (T := 33) (vs := [.int .i64 0, .int .i64 0, .int .i64 0]) (o9.up 5) 0 (.int .i64 k)
  have o6 := Own.setCell (T := 33) (vs := [.int .i64 k, .int .i64 0, .int .i64 0]) o5 1 (.int .i64 jj)
  have o7 := Own.setCell (T := 33) (vs := [.int .i64 k, .int .i64 jj, .int .i64 0]) o6 2 (.int .i64 4)
  go_wp2
  refine bodyPost_ret (v := .agg #[.int .i64 k, .int .i64 jj, .int .i64 4]) ?_ rfl ?_
  · exact chRow (p := w.heap.size) rfl rfl o7
  · exact ⟨rfl, ((o7.drop).up 2).drop.re [4, 3, 5, 6, 1, 0, 2], ⟨k6.os.trans (k3.os.trans (k2.os.trans k1.os)), k6.tape.trans (k3.tape.trans (k2.tape.trans k1.tape)), k6.output.trans (k3.output.trans (k2.output.trans k1.output))⟩⟩
end
end Go.Proofs.Ytkmlkpfabkhleaa

/- The choice of cifq: all its ways. -/
namespace Go.Proofs.Ytkmlkpfabkhleaa
open Go.RowKit
open SP
section
variable {w w' : World} {R : List SP} {b rp lp cp xp nb N : Nat} {reb : Int} {s : Cq}

theorem choose_spec {nu de cr cl : Nat} (hnu : nu < 4194304) (hde : de < 4194304) (hcr : cr < 1099511627776) (hcl : cl < 1099511627776) (hc : cntO s.n (selT s.R.L).1 = ((cr : Int), (cl : Int)))
    {Sp : SP} {a : Option Addr} {n c : Nat} {H : List Head} {so : Bool} (h1 : HeadsAt Sp a H) (hn : n = H.length) (hl : n ≤ 32) (hk : ∃ h ∈ H, h.f = (selT s.R.L).1) (hC : OrdOk s.C) (hX : OrdOk s.X)
    (o : Own w (ChoPool b (nu : Int) (de : Int) rp lp cp xp nb N reb s.R s.D s.C s.X s.n Sp R)) :
    Calls Try.prog 35 #[.pointer (some ⟨b, 0, none⟩), .slice a n c, .bool so] w
      (Ret (chV (chooseC (nu : Int) (de : Int) s H so)) (ChoPool b (nu : Int) (de : Int) rp lp cp xp nb N reb s.R s.D s.C s.X s.n Sp R) w) := by
  unfold chooseC
  dsimp only
  cases hg : (headOf H (selT s.R.L).1).good with
  | true =>
    cases hld : decide (lagO s.D (selT s.R.L).1 < 0) with
    | false => simp only [Bool.true_and, Bool.not_false, Bool.true_or, if_true]; exact choose_own h1 hn hl hk hg hld o
    | true =>
      cases hkp : keepsO (nu : Int) (de : Int) (cntO s.n (selT s.R.L).1) with
      | true => simp only [Bool.true_and, Bool.not_true, Bool.false_or, if_true]; exact choose_keeps hnu hde hcr hcl hc h1 hn hl hk hg hld hkp o
      | false =>
        simp only [Bool.true_and, Bool.not_true, Bool.false_or, Bool.false_eq_true, if_false, if_true]
        by_cases hj : 0 ≤ leastF s.C.el s.C.tg
        · rw [if_pos hj]; exact choose_lead hnu hde hcr hcl hc h1 hn hl hk hg hld hkp hC hj o
        · rw [if_neg hj]; exact choose_back hnu hde hcr hcl hc h1 hn hl hk hg hld hkp hC (by omega) o
  | false =>
    simp only [Bool.false_and, Bool.false_eq_true, if_false]
    by_cases hj : 0 ≤ leastF s.C.el s.C.tg
    · rw [if_pos hj]; exact choose_error h1 hn hl hk hg hC hj o
    · rw [if_neg hj]
      cases so with
      | true => simp only [if_true]; exact choose_excess h1 hn hl hk hg hC hX (by omega) o
      | false => simp only [Bool.false_eq_true, if_false]; exact choose_idle h1 hn hl hk hg hC (by omega) o
end
end Go.Proofs.Ytkmlkpfabkhleaa

/- Chapter 23: the law's generator of eligible flows, and the example. -/
namespace Go.Proofs.Ytkmlkpfabkhleaa
open Go.RowKit
open SP

def fullSet : List (Int × Int) := [(0, 1), (1, 2), (2, 3), (3, 1), (4, 16)]

section
variable {W w w' : World} {R : List SP} {b : Nat}

def SetPost (W : World) (b N : Nat) (R : List SP) (w : World) (e : Ending) (w' : World) : Prop :=
  ∃ (l : List (Int × Int)) (a : Option Addr) (cap : Nat), l.Sublist fullSet ∧ e = .returned (.slice a l.length cap) ∧ Own w' (slc 134 2 a l.length cap (flat part l) :: Ch W b (N + 5) :: old W :: R) ∧ Calm w w'

def SetRel (W : World) (b N : Nat) (R : List SP) (w : World) (v3 v4 : Value) (wr : World) : Prop :=
  ∃ (i : Nat) (l : List (Int × Int)) (a : Option Addr) (cap : Nat), i ≤ 5 ∧ l.Sublist (fullSet.take i) ∧ v4 = .int .i64 (i : Int) ∧ v3 = .slice a l.length cap ∧
    Own wr (slc 134 2 a l.length cap (flat part l) :: Ch W b (N + i) :: old W :: R) ∧ Calm w wr

theorem take_full {i : Nat} {p : Int × Int} (h : fullSet[i]? = some p) : fullSet.take (i + 1) = fullSet.take i ++ [p] := by
  rw [List.take_add_one, h]; rfl

end
end Go.Proofs.Ytkmlkpfabkhleaa

/- The order of comp as functions on lists of pairs: what Eligible, Select and Serve keep. No program in sight. -/
namespace Go.Proofs.Ytkmlkpfabkhleaa
open Go.RowKit
open SP

section
variable {reb tm : Int} {el tg : List (Int × Int)}

theorem tget_mput (tg : List (Int × Int)) (k v f : Int) : tget (mput tg k v) f = if f = k then v else tget tg f := by
  unfold tget; rw [mget_mput]; split <;> rfl
theorem tget_lower (by_ : Int) (hb : 0 ≤ by_) (tg : List (Int × Int)) (f : Int) : tget (lower by_ tg) f = max (tget tg f - by_) 0 := by
  induction tg with
  | nil => simp [tget, mget, lower]; omega
  | cons x tg ih =>
    obtain ⟨k, v⟩ := x
    unfold tget lower at *
    simp only [List.map_cons]
    unfold mget
    by_cases h : f = k
    · rw [if_pos h, if_pos h]; rfl
    · rw [if_neg h, if_neg h]; exact ih
theorem lower_keys (by_ : Int) (tg : List (Int × Int)) : (lower by_ tg).map (·.1) = tg.map (·.1) := by unfold lower; rw [List.map_map]; rfl
theorem Uniq.lower (h : Uniq tg) (by_ : Int) : Uniq (lower by_ tg) := by unfold Uniq; rw [lower_keys]; exact h
theorem tget_val (hu : Uniq tg) {x : Int × Int} (hx : x ∈ tg) : tget tg x.1 = x.2 := by unfold tget; rw [mget_mem hu hx]; rfl

theorem eligTg_uniq (el : List (Int × Int)) (tm : Int) : ∀ (l tg : List (Int × Int)), Uniq tg → Uniq (eligTg el tm l tg)
  | [], tg, h => h
  | p :: l, tg, h => by
    unfold eligTg
    refine eligTg_uniq el tm l _ ?_
    split
    · exact h
    · exact h.mput _ _
theorem eligTg_get (el : List (Int × Int)) (tm f : Int) : ∀ (l tg : List (Int × Int)), tget (eligTg el tm l tg) f = if f ∈ l.map (·.1) ∧ mget el f = none then max (tget tg f) tm else tget tg f
  | [], tg => by simp [eligTg]
  | p :: l, tg => by
    unfold eligTg
    rw [eligTg_get el tm f l]
    cases he : mget el p.1 with
    | none =>
      simp only [Option.isSome_none, Bool.false_eq_true, if_false]
      rw [tget_mput]
      by_cases hf : f = p.1
      · subst hf
        simp only [if_true, he, and_true, List.map_cons, List.mem_cons, true_or]
        split <;> omega
      · simp only [List.map_cons, List.mem_cons, hf, false_or, if_false]
    | some v =>
      simp only [Option.isSome_some, if_true]
      by_cases hf : f = p.1
      · subst hf; simp [he]
      · simp only [List.map_cons, List.mem_cons, hf, false_or]

theorem mput_end : ∀ (m : List (Int × Int)) (k v : Int), k ∉ m.map (·.1) → mput m k v = m ++ [(k, v)]
  | [], _, _, _ => rfl
  | (k', v') :: m, k, v, h => by
    simp only [List.map_cons, List.mem_cons, not_or] at h
    unfold mput
    rw [if_neg h.1, mput_end m k v h.2]; rfl
theorem eligEl_append : ∀ (l m : List (Int × Int)), ((m ++ l).map (·.1)).Nodup → eligEl l m = m ++ l
  | [], m, _ => by simp [eligEl]
  | p :: l, m, h => by
    unfold eligEl
    have hk : p.1 ∉ m.map (·.1) := by
      rw [List.map_append, List.nodup_append] at h
      intro hp
      exact h.2.2 _ hp _ (by simp) rfl
    rw [mput_end m p.1 p.2 hk, eligEl_append l _ (by simpa using h)]
    simp
theorem eligEl_self {l : List (Int × Int)} (h : Uniq l) : eligEl l [] = l := by rw [eligEl_append l [] (by simpa [Uniq] using h)]; rfl

theorem eligBad_ok : ∀ (l : List (Int × Int)) (last : Int), (l.map (·.1)).Pairwise (· < ·) → (∀ p ∈ l, last < p.1 ∧ p.1 < 32 ∧ 1 ≤ p.2 ∧ p.2 ≤ 16) → eligBad last l = false
  | [], _, _, _ => rfl
  | p :: l, last, h, hp => by
    have h0 := hp p (by simp)
    rw [List.map_cons, List.pairwise_cons] at h
    have ih := eligBad_ok l p.1 h.2 (fun q hq => ⟨h.1 _ (List.mem_map.2 ⟨q, hq, rfl⟩), (hp q (by simp [hq])).2⟩)
    unfold eligBad
    rw [ih]
    simp; omega

/-- The weights that the laws use. -/
def wf (f : Int) : Int := (mget fullSet f).getD 1
theorem set_facts {l : List (Int × Int)} (h : l.Sublist fullSet) : eligBad (-1) l = false ∧ Uniq l ∧ KeyOk l ∧ l.length ≤ 5 ∧ ∀ p ∈ l, 0 ≤ p.1 ∧ p.1 ≤ 4 ∧ p.2 = wf p.1 ∧ 1 ≤ p.2 ∧ p.2 ≤ 16 := by
  have hp : ∀ p ∈ l, 0 ≤ p.1 ∧ p.1 ≤ 4 ∧ p.2 = wf p.1 ∧ 1 ≤ p.2 ∧ p.2 ≤ 16 := fun p hp => by
    have : ∀ q ∈ fullSet, 0 ≤ q.1 ∧ q.1 ≤ 4 ∧ q.2 = wf q.1 ∧ 1 ≤ q.2 ∧ q.2 ≤ 16 := by decide
    exact this p (h.subset hp)
  have hw : (l.map (·.1)).Pairwise (· < ·) := by
    have : (fullSet.map (·.1)).Pairwise (· < ·) := by decide
    exact this.sublist (h.map _)
  have hu : Uniq l := by unfold Uniq; exact hw.imp (fun h => by omega)
  refine ⟨eligBad_ok l (-1) hw (fun p h => by have := hp p h; omega), hu, ⟨hu, fun x hx => by have := hp x hx; omega⟩, h.length_le, hp⟩

theorem wf_range (f : Int) : 1 ≤ wf f ∧ wf f ≤ 16 := by
  unfold wf
  cases h : mget fullSet f with
  | none => decide
  | some v =>
    have : ∀ q ∈ fullSet, 1 ≤ q.2 ∧ q.2 ≤ 16 := by decide
    exact this _ (mem_of_mget h)

theorem leastL_facts (tg : List (Int × Int)) : ∀ (ks : List Int) (best : Int), (∀ k ∈ ks, 0 ≤ k) → 0 ≤ best →
    (leastL tg ks best = best ∨ leastL tg ks best ∈ ks) ∧ tget tg (leastL tg ks best) ≤ tget tg best ∧ ∀ k ∈ ks, tget tg (leastL tg ks best) ≤ tget tg k
  | [], best, _, _ => ⟨.inl rfl, Int.le_refl _, by simp⟩
  | f :: ks, best, h, hb => by
    have hks : ∀ k ∈ ks, 0 ≤ k := fun k hk => h k (by simp [hk])
    unfold leastL
    by_cases hc : best < 0 ∨ tget tg f < tget tg best
    · rw [if_pos hc]
      obtain ⟨h1, h2, h3⟩ := leastL_facts tg ks f hks (h f (by simp))
      have hc' : tget tg f < tget tg best := by omega
      refine ⟨.inr (by rcases h1 with h1 | h1 <;> simp [h1]), by omega, ?_⟩
      intro k hk
      rcases List.mem_cons.1 hk with rfl | hk
      · exact h2
      · exact h3 k hk
    · rw [if_neg hc]
      obtain ⟨h1, h2, h3⟩ := leastL_facts tg ks best hks hb
      refine ⟨by rcases h1 with h1 | h1 <;> simp [h1], h2, ?_⟩
      intro k hk
      rcases List.mem_cons.1 hk with rfl | hk
      · omega
      · exact h3 k hk

theorem leastF_facts (el tg : List (Int × Int)) (h : ∀ p ∈ el, 0 ≤ p.1) : (el = [] ∧ leastF el tg = -1) ∨ (leastF el tg ∈ el.map (·.1) ∧ ∀ p ∈ el, tget tg (leastF el tg) ≤ tget tg p.1) := by
  have hk : ∀ k ∈ sortK el, 0 ≤ k := fun k hk => by
    obtain ⟨x, hx, rfl⟩ := List.mem_map.1 (sortK_mem.1 hk)
    exact h x hx
  have hm : ∀ k, k ∈ sortK el ↔ k ∈ el.map (·.1) := fun k => sortK_mem
  unfold leastF
  cases hs : sortK el with
  | nil =>
    left
    have : el.length = 0 := by rw [← sortK_length, hs]; rfl
    exact ⟨List.eq_nil_of_length_eq_zero this, rfl⟩
  | cons f ks =>
    right
    rw [hs] at hk hm
    unfold leastL
    rw [if_pos (.inl (by omega))]
    obtain ⟨h1, h2, h3⟩ := leastL_facts tg ks f (fun k hk' => hk k (by simp [hk'])) (hk f (by simp))
    refine ⟨(hm _).1 (by rcases h1 with h1 | h1 <;> simp [h1]), fun p hp => ?_⟩
    rcases List.mem_cons.1 ((hm p.1).2 (List.mem_map.2 ⟨p, hp, rfl⟩)) with h4 | h4
    · rw [h4]; exact h2
    · exact h3 _ h4

theorem mget_isSome_of {el : List (Int × Int)} {f : Int} (h : f ∈ el.map (·.1)) : ∃ v, mget el f = some v := by
  cases h' : mget el f with
  | none => exact absurd h (mget_none.1 h')
  | some v => exact ⟨v, rfl⟩

/-! ### CompSpread -/
structure SInv (sz : Int) (i : Nat) (el tg : List (Int × Int)) (tm : Int) : Prop where
  szr : 1 ≤ sz ∧ sz ≤ 4096
  sub : el.Sublist fullSet
  uniq : Uniq tg
  tm0 : 0 ≤ tm ∧ tm ≤ i * 2952069120
  get : ∀ f, 0 ≤ tget tg f ∧ tget tg f ≤ i * 2952069120 ∧ tget tg f ≤ tm + sz * unit1 (wf f)
  low : ∀ p ∈ el, tm ≤ tget tg p.1

theorem SInv.start {sz : Int} (hz : 1 ≤ sz ∧ sz ≤ 4096) : SInv sz 0 [] [] 0 := ⟨hz, List.nil_sublist _, by simp [Uniq], by omega, fun f => by
  have := unit1_range (wf_range f).1 (wf_range f).2
  show 0 ≤ (0 : Int) ∧ _
  refine ⟨Int.le_refl _, ?_, ?_⟩
  · show (0 : Int) ≤ _; simp
  · show (0 : Int) ≤ _; have := Int.mul_nonneg (show 0 ≤ sz by omega) (show 0 ≤ unit1 (wf f) by omega); omega, by simp⟩

theorem SInv.room {sz : Int} {i : Nat} (h : SInv sz i el tg tm) (f : Int) : 0 ≤ sz * unit1 (wf f) := by
  have := unit1_range (wf_range f).1 (wf_range f).2
  exact Int.mul_nonneg (by have := h.szr; omega) (by omega)

theorem SInv.vals {sz : Int} {i : Nat} (h : SInv sz i el tg tm) (hi : i ≤ 300) : ∀ x ∈ tg, 0 ≤ x.2 ∧ x.2 ≤ 1099511627776 := fun x hx => by
  have := h.get x.1
  rw [tget_val h.uniq hx] at this
  omega

theorem SInv.elig {sz : Int} {i : Nat} (h : SInv sz i el tg tm) {l : List (Int × Int)} (hl : l.Sublist fullSet) : SInv sz i (eligEl l []) (eligTg el tm l tg) tm := by
  obtain ⟨_, hu, _, _, hp⟩ := set_facts hl
  have hlow : ∀ f, mget el f ≠ none → tm ≤ tget tg f := fun f hf => by
    cases he : mget el f with
    | none => exact absurd he hf
    | some v => exact h.low _ (mem_of_mget he)
  have htm := h.tm0
  rw [eligEl_self hu]
  refine ⟨h.szr, hl, eligTg_uniq el tm l tg h.uniq, h.tm0, fun f => ?_, fun p hp => ?_⟩
  · have := h.get f
    have := h.room f
    rw [eligTg_get]
    split <;> omega
  · rw [eligTg_get]
    split
    · omega
    · rename_i hn
      refine hlow _ fun he => hn ⟨List.mem_map.2 ⟨p, hp, rfl⟩, he⟩

theorem SInv.serve {sz : Int} {i : Nat} (h : SInv sz i el tg tm) (hi : i ≤ 100) (hne : el ≠ []) {len : Int} (h1 : 1 ≤ len) (h2 : len ≤ sz) :
    0 ≤ leastF el tg ∧ servE el tg (leastF el tg) len = 0 ∧
    (servBy el tg tm (leastF el tg) len = servTm tg tm (leastF el tg)) ∧
    SInv sz (i + 1) el (servTg el tg (leastF el tg) len) (servTm tg tm (leastF el tg)) ∧
    SInv sz (i + 1) el (lower (servBy el tg tm (leastF el tg) len) (servTg el tg (leastF el tg) len)) (servTm tg tm (leastF el tg) - servBy el tg tm (leastF el tg) len) := by
  obtain ⟨_, hu, _, _, hp⟩ := set_facts h.sub
  have hp0 : ∀ p ∈ el, 0 ≤ p.1 := fun p hp' => (hp p hp').1
  rcases leastF_facts el tg hp0 with ⟨he, _⟩ | ⟨hmem, hmin⟩
  · exact absurd he hne
  have hf0 : 0 ≤ leastF el tg := by obtain ⟨p, hp', hpe⟩ := List.mem_map.1 hmem; rw [← hpe]; exact hp0 p hp'
  refine ⟨hf0, ?_⟩
  generalize leastF el tg = f at *
  obtain ⟨wt, hwt⟩ := mget_isSome_of hmem
  have hin := mem_of_mget hwt
  have hpw := hp _ hin
  dsimp only at hpw
  have hel : tget el f = wt := by unfold tget; rw [hwt]; rfl
  have hlow := h.low _ hin
  dsimp only at hlow
  have hg := h.get f
  have hsz := h.szr
  obtain ⟨c1, c2⟩ := cst_range (len := len) hpw.2.2.2.1 hpw.2.2.2.2 h1 (by have := h.szr; omega)
  have hfin : servFin el tg f len = (tget tg f + cst len wt, 0) := by
    unfold servFin finF
    rw [hel, if_neg (by unfold badLW; omega), if_neg (by omega)]
  have hcu : cst len wt ≤ sz * unit1 (wf f) := by
    rw [← hpw.2.2.1]
    exact Int.mul_le_mul_of_nonneg_right h2 (by have := unit1_range hpw.2.2.2.1 hpw.2.2.2.2; omega)
  have hE : servE el tg f len = 0 := by unfold servE; rw [hwt, hfin]; rfl
  have hTm : servTm tg tm f = tget tg f := by unfold servTm; omega
  have hTg : ∀ g, tget (servTg el tg f len) g = if g = f then tget tg f + cst len wt else tget tg g := fun g => by unfold servTg; rw [tget_mput, hfin]
  have hlow' : ∀ p ∈ el, tget tg f ≤ tget (servTg el tg f len) p.1 := fun p hp' => by
    rw [hTg]
    split
    · omega
    · exact hmin p hp'
  have hBy : servBy el tg tm f len = tget tg f := by
    unfold servBy
    rw [hTm]
    rcases leastF_facts el (servTg el tg f len) hp0 with ⟨he, _⟩ | ⟨hm2, _⟩
    · exact absurd he hne
    · obtain ⟨q, hq, hqe⟩ := List.mem_map.1 hm2
      have := hlow' q hq
      rw [hqe] at this
      omega
  have hu1 : Uniq (servTg el tg f len) := h.uniq.mput _ _
  refine ⟨hE, by rw [hBy, hTm], ⟨h.szr, h.sub, hu1, by rw [hTm]; push_cast; omega, fun g => ?_, by rw [hTm]; exact hlow'⟩, ⟨h.szr, h.sub, hu1.lower _, by rw [hTm, hBy]; push_cast; omega, fun g => ?_, fun p hp' => ?_⟩⟩
  · have hgg := h.get g
    rw [hTm, hTg]
    split
    · rename_i hgf; subst hgf; push_cast; omega
    · push_cast; omega
  · have hgg := h.get g
    have hug := h.room g
    rw [hBy, tget_lower _ hg.1, hTm, hTg]
    split
    · rename_i hgf; subst hgf; push_cast; omega
    · push_cast; omega
  · rw [hBy, hTm, tget_lower _ hg.1]
    omega
end
end Go.Proofs.Ytkmlkpfabkhleaa

/- Regions whose order Go leaves open: one invariant that every operation keeps serves for all orders. -/
namespace Go.Proofs.Ytkmlkpfabkhleaa
open Go.RowKit
section
variable {P : Program} {ops : Array Oper} {Q : Exit → Act → World → Prop}

theorem count_set_lt : ∀ (l : List Bool) (i : Nat), l[i]? = some false → (l.set i true).count false < l.count false
  | [], i, h => by simp at h
  | b :: l, 0, h => by
    simp at h; subst h
    simp
  | b :: l, i + 1, h => by
    have := count_set_lt l i (by simpa using h)
    simp only [List.set_cons_succ, List.count_cons]
    omega

theorem count_zero_all : ∀ (l : List Bool), l.count false = 0 → ∀ b ∈ l, b = true
  | [], _, b, h => by simp at h
  | c :: l, h, b, hb => by
    rw [List.count_cons] at h
    have h1 : l.count false = 0 := by omega
    rcases List.mem_cons.1 hb with rfl | hb
    · cases b
      · simp at h
      · rfl
    · exact count_zero_all l h1 b hb

/-- Edges point back. -/
def edgesBack (ops : Array Oper) : Bool := ops.toList.zipIdx.all fun (o, i) => o.after.all fun e => !Region.binds .any e || decide (e.on < i)
theorem edgesBack_spec (h : edgesBack ops = true) {i : Nat} {o : Oper} (ho : ops[i]? = some o) {e : Edge} (he : e ∈ o.after) (hb : Region.binds .any e = true) : e.on < i := by
  unfold edgesBack at h
  rw [List.all_eq_true] at h
  have hm : (o, i) ∈ ops.toList.zipIdx := by
    rw [List.mk_mem_zipIdx_iff_getElem?]
    simpa using ho
  have := h _ hm
  simp only [Array.all_eq_true'] at this
  have := this e he
  rw [hb] at this
  simpa using this

theorem ready_nil_all (hk : edgesBack ops = true) {L : Array Bool} (hs : L.size = ops.size) (h : Region.ready .any ops L = []) : ∀ i, i < ops.size → L.getD i true = true := by
  intro i
  induction i using Nat.strongRecOn with
  | _ i ih =>
    intro hi
    cases hc : L.getD i true with
    | true => rfl
    | false =>
      exfalso
      have hm : i ∈ Region.ready .any ops L := by
        rw [mem_ready]
        refine ⟨hc, ops[i], Array.getElem?_eq_getElem hi, fun e he hb => ?_⟩
        have hlt := edgesBack_spec hk (Array.getElem?_eq_getElem hi) he hb
        have := ih e.on hlt (by omega)
        have h1 : e.on < L.size := by omega
        simp only [Array.getD, h1, dif_pos] at this ⊢
        exact this
      rw [h] at hm
      cases hm

theorem wpAny_inv {I : Array Bool → Act → World → Prop} (hk : edgesBack ops = true)
    (step : ∀ (L : Array Bool) (i : Nat) (o : Oper) (a : Act) (w : World), L.size = ops.size → ops[i]? = some o → L.getD i true = false → (∀ e ∈ o.after, Region.binds .any e = true → L.getD e.on false = true) → I L a w → wpOp P ops Q i (I (L.setIfInBounds i true)) a w)
    (fin : ∀ (L : Array Bool) (a : Act) (w : World), L.size = ops.size → (∀ i, i < ops.size → L.getD i true = true) → I L a w → Q .normal a w) :
    ∀ (fuel : Nat) (L : Array Bool) (a : Act) (w : World), L.size = ops.size → L.toList.count false ≤ fuel → I L a w → wpAny P .any ops Q fuel L a w
  | 0, L, a, w, hs, hc, hI => by
    have hall : ∀ i, i < ops.size → L.getD i true = true := by
      intro i hi
      have h1 : i < L.size := by omega
      have h2 := count_zero_all L.toList (by omega) L[i] (by simp)
      simp only [Array.getD, h1, dif_pos]
      exact h2
    refine ⟨?_, fin L a w hs hall hI⟩
    cases hr : Region.ready .any ops L with
    | nil => rfl
    | cons j l =>
      exfalso
      have hm : j ∈ Region.ready .any ops L := by rw [hr]; exact List.mem_cons_self
      obtain ⟨h1, o, ho, _⟩ := mem_ready.1 hm
      rw [hall j (Array.getElem?_eq_some_iff.1 ho).1] at h1
      cases h1
  | fuel + 1, L, a, w, hs, hc, hI => by
    refine ⟨fun h => fin L a w hs (ready_nil_all hk hs h) hI, fun i hi => ?_⟩
    obtain ⟨h1, o, ho, h2⟩ := mem_ready.1 hi
    refine wpOp_mono (fun a' w' hI' => ?_) (step L i o a w hs ho h1 h2 hI)
    refine wpAny_inv hk step fin fuel _ a' w' (by simpa using hs) ?_ hI'
    have hlt := (Array.getElem?_eq_some_iff.1 ho).1
    have h3 : L.toList[i]? = some false := by
      have h4 : i < L.size := by omega
      simp only [Array.getD, h4, dif_pos] at h1
      rw [Array.getElem?_toList, Array.getElem?_eq_getElem h4]
      exact congrArg some h1
    have := count_set_lt _ _ h3
    rw [Array.toList_setIfInBounds]
    omega

/-- What an activation holds when the operations that L marks have been carried out, with the values v. -/
structure Agree (A0 : Act) (ops : Array Oper) (L : Nat → Bool) (v : Nat → Value) (a : Act) : Prop where
  defers : a.defers = A0.defers
  size : a.tmps.size = A0.tmps.size
  off : ∀ t : Nat, (∀ k o, ops[k]? = some o → o.dst = some t → L k = false) → a.tmps.getD t undef = A0.tmps.getD t undef
  on : ∀ (k : Nat) (o : Oper) (t : Nat), ops[k]? = some o → o.dst = some t → L k = true → a.tmps.getD t undef = v k

def dIns (L : Nat → Bool) (i : Nat) : Nat → Bool := fun j => if j = i then true else L j
def dUpd (v : Nat → Value) (i : Nat) (x : Value) : Nat → Value := fun j => if j = i then x else v j

/-- Each operation has a slot of its own. -/
def slotsOk (ops : Array Oper) (n : Nat) : Bool :=
  (List.range ops.size).all fun i => match (ops[i]?).bind (·.dst) with
    | none => true
    | some t => decide (t < n) && (List.range ops.size).all fun j => decide (i = j) || (ops[j]?).bind (·.dst) != some t
theorem slotsOk_lt {n : Nat} (h : slotsOk ops n = true) {i : Nat} {o : Oper} {t : Nat} (ho : ops[i]? = some o) (ht : o.dst = some t) : t < n := by
  unfold slotsOk at h
  rw [List.all_eq_true] at h
  have := h i (List.mem_range.2 (Array.getElem?_eq_some_iff.1 ho).1)
  rw [ho] at this
  simp only [Option.bind_some, ht, Bool.and_eq_true, decide_eq_true_eq] at this
  exact this.1
theorem slotsOk_ne {n : Nat} (h : slotsOk ops n = true) {i j : Nat} {o o' : Oper} {t : Nat} (ho : ops[i]? = some o) (ht : o.dst = some t) (ho' : ops[j]? = some o') (ht' : o'.dst = some t) : i = j := by
  unfold slotsOk at h
  rw [List.all_eq_true] at h
  have := h i (List.mem_range.2 (Array.getElem?_eq_some_iff.1 ho).1)
  rw [ho] at this
  simp only [Option.bind_some, ht, Bool.and_eq_true, decide_eq_true_eq, List.all_eq_true] at this
  have := this.2 j (List.mem_range.2 (Array.getElem?_eq_some_iff.1 ho').1)
  rw [ho'] at this
  simpa [ht'] using this

theorem Agree.put {A0 a : Act} {L : Nat → Bool} {v : Nat → Value} {i : Nat} {o : Oper} (hs : slotsOk ops A0.tmps.size = true) (h : Agree A0 ops L v a) (ho : ops[i]? = some o) (x : Value) :
    Agree A0 ops (dIns L i) (dUpd v i x) (a.put o.dst x) := by
  cases hd : o.dst with
  | none =>
    refine ⟨h.defers, h.size, fun t ht => h.off t fun k o' hk hk' => ?_, fun k o' t hk hk' hl => ?_⟩
    · have := ht k o' hk hk'
      unfold dIns at this
      split at this
      · cases this
      · exact this
    · unfold dIns at hl
      split at hl
      · rename_i e; subst e; rw [ho] at hk; cases hk; rw [hd] at hk'; cases hk'
      · rename_i e
        simp only [dUpd, if_neg e]
        exact h.on k o' t hk hk' hl
  | some d =>
    have hdl : d < a.tmps.size := by rw [h.size]; exact slotsOk_lt hs ho hd
    have same : ∀ t, t ≠ d → (a.put (some d) x).tmps.getD t undef = a.tmps.getD t undef := by
      intro t ht
      simp only [Act.put, Array.getD_eq_getD_getElem?, Array.getElem?_setIfInBounds]
      rw [if_neg (Ne.symm ht)]
    refine ⟨h.defers, by simp [Act.put, h.size], fun t ht => ?_, fun k o' t hk hk' hl => ?_⟩
    · have hne : t ≠ d := by
        rintro rfl
        have := ht i o ho hd
        simp [dIns] at this
      rw [same t hne]
      refine h.off t fun k o' hk hk' => ?_
      have := ht k o' hk hk'
      unfold dIns at this
      split at this
      · cases this
      · exact this
    · by_cases hki : k = i
      · subst hki
        rw [ho] at hk; cases hk
        rw [hd] at hk'; cases hk'
        simp [Act.put, dUpd, Array.getD_eq_getD_getElem?, hdl]
      · have hne : t ≠ d := by
          rintro rfl
          exact hki (slotsOk_ne hs hk hk' ho hd)
        rw [same t hne]
        simp only [dIns, if_neg hki] at hl
        simp only [dUpd, if_neg hki]
        exact h.on k o' t hk hk' hl

theorem Agree.start (A0 : Act) (ops : Array Oper) (v : Nat → Value) : Agree A0 ops (fun _ => false) v A0 :=
  ⟨rfl, rfl, fun _ _ => rfl, fun _ _ _ _ _ h => by cases h⟩

theorem Agree.uniq {A0 a b : Act} {L : Nat → Bool} {v : Nat → Value} (h : Agree A0 ops L v a) (k : Agree A0 ops L v b) : a = b := by
  have e1 : a.defers = b.defers := h.defers.trans k.defers.symm
  have es : a.tmps.size = b.tmps.size := h.size.trans k.size.symm
  have e2 : a.tmps = b.tmps := by
    apply Array.ext es
    intro t h1 h2
    have hh : a.tmps.getD t undef = b.tmps.getD t undef := by
      by_cases hx : ∃ k o, ops[k]? = some o ∧ o.dst = some t ∧ L k = true
      · obtain ⟨k', o, ho, hd, hl⟩ := hx
        rw [h.on k' o t ho hd hl, k.on k' o t ho hd hl]
      · have hno : ∀ k o, ops[k]? = some o → o.dst = some t → L k = false := by
          intro k' o ho hd
          cases hl : L k' with
          | false => rfl
          | true => exact absurd ⟨k', o, ho, hd, hl⟩ hx
        rw [h.off t hno, k.off t hno]
    simpa [Array.getD, h1, h2] using hh
  cases a; cases b
  simp only at e1 e2
  rw [e1, e2]

/-- All operations' values, put in the order of the text. -/
def putAll : List Oper → Nat → (Nat → Value) → Act → Act
  | [], _, _, a => a
  | o :: l, k, v, a => putAll l (k + 1) v (a.put o.dst (v k))

theorem Agree.congr {A0 a : Act} {L L' : Nat → Bool} {v v' : Nat → Value} (h : Agree A0 ops L v a) (hL : ∀ k, k < ops.size → L k = L' k) (hv : ∀ k, k < ops.size → L k = true → v k = v' k) : Agree A0 ops L' v' a :=
  ⟨h.defers, h.size, fun t ht => h.off t fun k o ho hd => by rw [hL k (Array.getElem?_eq_some_iff.1 ho).1]; exact ht k o ho hd,
   fun k o t ho hd hl => by
    have hk := (Array.getElem?_eq_some_iff.1 ho).1
    rw [← hL k hk] at hl
    rw [h.on k o t ho hd hl, hv k hk hl]⟩

theorem Agree.all {A0 : Act} (hs : slotsOk ops A0.tmps.size = true) (v : Nat → Value) : ∀ (l : List Oper) (k : Nat) (a : Act), ops.toList.drop k = l → Agree A0 ops (fun j => decide (j < k)) v a → Agree A0 ops (fun _ => true) v (putAll l k v a)
  | [], k, a, hl, h => by
    have hk : ops.size ≤ k := by
      have := congrArg List.length hl
      simp at this
      omega
    refine h.congr (fun j hj => by simp; omega) (fun _ _ _ => rfl)
  | o :: l, k, a, hl, h => by
    have ho : ops[k]? = some o := by
      have : (ops.toList.drop k)[0]? = some o := by rw [hl]; rfl
      rw [List.getElem?_drop] at this
      simpa using this
    have hl' : ops.toList.drop (k + 1) = l := by
      rw [← List.drop_drop, hl]; rfl
    refine Agree.all hs v l (k + 1) _ hl' ?_
    refine (h.put hs ho (v k)).congr (fun j hj => ?_) (fun j hj _ => ?_)
    · unfold dIns; split
      · rename_i e; subst e; simp
      · rename_i e
        have : (j < k) ↔ (j < k + 1) := by omega
        simp [this]
    · unfold dUpd; split
      · rename_i e; rw [e]
      · rfl

/-- Said of every operation. -/
def AllOps : List Oper → Nat → (Nat → Oper → Prop) → Prop
  | [], _, _ => True
  | o :: l, k, p => p k o ∧ AllOps l (k + 1) p
theorem AllOps.get {p : Nat → Oper → Prop} : ∀ {l : List Oper} {k : Nat}, AllOps l k p → ∀ (i : Nat) (o : Oper), l[i]? = some o → p (k + i) o
  | [], _, _, i, o, h => by simp at h
  | x :: l, k, h, 0, o, ho => by simp at ho; subst ho; exact h.1
  | x :: l, k, h, i + 1, o, ho => by
    have := AllOps.get h.2 i o (by simpa using ho)
    rwa [show k + 1 + i = k + (i + 1) by omega] at this

/-- The step of one operation. -/
def DrawStep (P : Program) (ops : Array Oper) (Q : Exit → Act → World → Prop) (A0 : Act) (Inv : (Nat → Bool) → (Nat → Value) → World → Prop) (i : Nat) (o : Oper) : Prop :=
  ∀ (L : Nat → Bool) (v : Nat → Value) (a : Act) (w : World), L i = false → (∀ e ∈ o.after, Region.binds .any e = true → L e.on = true) → Agree A0 ops L v a → Inv L v w →
    ∀ K' : Act → World → Prop, Shut (∀ x w', Inv (dIns L i) (dUpd v i x) w' → K' (a.put o.dst x) w') → if Region.wanted o (yielded ops a.tmps) = true then Oper.wp P o a w K' Q else K' (a.put o.dst undef) w
theorem Agree.get {A0 a : Act} {L : Nat → Bool} {v : Nat → Value} (h : Agree A0 ops L v a) (k : Nat) {t : Nat} (hl : L k = true) (ho : (ops[k]?).bind (·.dst) = some t := by rfl) : a.tmps[t]?.getD undef = v k := by
  obtain ⟨o, ho, hd⟩ := Option.bind_eq_some_iff.1 ho
  rw [← Array.getD_eq_getD_getElem?]
  exact h.on k o t ho hd hl
theorem Agree.base {A0 a : Act} {L : Nat → Bool} {v : Nat → Value} (h : Agree A0 ops L v a) (t : Nat) (hb : (ops.toList.all fun o => o.dst != some t) = true) : a.tmps[t]?.getD undef = A0.tmps[t]?.getD undef := by
  rw [← Array.getD_eq_getD_getElem?, ← Array.getD_eq_getD_getElem?]
  refine h.off t fun k o ho hd => ?_
  rw [List.all_eq_true] at hb
  have := hb o (by have := Array.mem_of_getElem? ho; simpa using this)
  rw [hd] at this
  simp at this
/-- An operation number i of a DrawStep, with the way on laid open. -/
theorem DrawStep.mk {A0 : Act} {Inv : (Nat → Bool) → (Nat → Value) → World → Prop} {i : Nat} {o : Oper} (hg : o.guard = none)
    (h : ∀ (L : Nat → Bool) (v : Nat → Value) (a : Act) (w : World), L i = false → (∀ e ∈ o.after, Region.binds .any e = true → L e.on = true) → Agree A0 ops L v a → Inv L v w →
      ∀ K' : Act → World → Prop, Shut (∀ x w', Inv (dIns L i) (dUpd v i x) w' → K' (a.put o.dst x) w') → Oper.wp P o a w K' Q) : DrawStep P ops Q A0 Inv i o := by
  intro L v a w h1 h2 h3 h4 K' hK
  rw [if_pos (by unfold Region.wanted; rw [hg])]
  exact h L v a w h1 h2 h3 h4 K' hK

theorem wp_region_draws {id : Nat} {A0 : Act} {w : World} (Inv : (Nat → Bool) → (Nat → Value) → World → Prop) (hm : P.follows .mixedOrders = true)
    (hk : edgesBack ops = true) (hs : slotsOk ops A0.tmps.size = true)
    (h0 : Inv (fun _ => false) (fun _ => undef) w.drew)
    (step : AllOps ops.toList 0 (DrawStep P ops Q A0 Inv))
    (fin : ∀ (L : Nat → Bool) (v : Nat → Value) (w : World), (∀ i, i < ops.size → L i = true) → Inv L v w → Q .normal (putAll ops.toList 0 v A0) w) : (Code.region id ops true).wp P Q A0 w := by
  refine wp_region_any hm ?_
  refine wpAny_inv (I := fun L a w => ∃ v, Agree A0 ops (fun j => L.getD j false) v a ∧ Inv (fun j => L.getD j false) v w) hk ?_ ?_ _ _ _ _ (by simp) ?_ ?_
  · rintro L i o a w hLs ho hL hdep ⟨v, hA, hI⟩
    have hi := (Array.getElem?_eq_some_iff.1 ho).1
    have hiL : i < L.size := by omega
    have hLi : L.getD i false = false := by
      simp only [Array.getD, hiL, dif_pos] at hL ⊢; exact hL
    have hst := step.get i o (by simpa using ho)
    rw [Nat.zero_add] at hst
    have hst := hst _ v a w hLi hdep hA hI
    have hins : (fun j => (L.setIfInBounds i true).getD j false) = dIns (fun j => L.getD j false) i := by
      funext j
      unfold dIns
      by_cases hj : j = i
      · subst hj; simp [Array.getD_eq_getD_getElem?, hiL]
      · simp [Array.getD_eq_getD_getElem?, Ne.symm hj, hj]
    refine wpOp_step ho fun K' hK => hst K' ?_
    intro x w' hI'
    exact hK _ _ ⟨_, by rw [hins]; exact hA.put hs ho x, by rw [hins]; exact hI'⟩
  · rintro L a w hLs hall ⟨v, hA, hI⟩
    have hall' : ∀ i, i < ops.size → L.getD i false = true := by
      intro i hi
      have h1 : i < L.size := by omega
      have := hall i hi
      simp only [Array.getD, h1, dif_pos] at this ⊢; exact this
    have e : a = putAll ops.toList 0 v A0 := by
      refine Agree.uniq (L := fun _ => true) (v := v) (hA.congr (fun k hk => hall' k hk) (fun _ _ _ => rfl)) ?_
      exact Agree.all hs v ops.toList 0 A0 (by simp) ((Agree.start A0 ops v).congr (fun k hk => by simp) (fun _ _ h => by cases h))
    rw [e]
    exact fin _ v w hall' hI
  · simp
  · have e : (fun j => (Array.replicate ops.size false).getD j false) = fun _ => false := by
      funext j
      simp only [Array.getD_eq_getD_getElem?, Array.getElem?_replicate]
      split <;> rfl
    rw [e]
    exact ⟨_, Agree.start A0 ops _, h0⟩
end
section
open SP
variable {W w w' : World} {R : List SP}
/-- A table that a region lays and then indexes: the part of its array. -/
def Tb (l : Bool) (v : Value) (T : TypeId) (xs : List Value) : SP :=
  if l = true then ex fun (g : Nat) => st [pu (v = .slice (some ⟨g, 0, none⟩) xs.length xs.length), cel g T xs] else pu True
theorem Tb.no {v : Value} {T : TypeId} {xs : List Value} (o : Own w R) : Own w (Tb false v T xs :: R) := by
  unfold Tb
  rw [if_neg (by decide)]
  exact Own.pu.2 ⟨trivial, o⟩
theorem Tb.new {v : Value} {T : TypeId} {xs : List Value} (_ : Own w (Tb false v T xs :: R)) (g : Nat) (o' : Own w' (cel g T xs :: Tb false v T xs :: R)) : Own w' (Tb true (.slice (some ⟨g, 0, none⟩) xs.length xs.length) T xs :: R) := by
  unfold Tb at o' ⊢
  rw [if_neg (by decide)] at o'
  rw [if_pos rfl]
  exact Own.ex.2 ⟨g, Own.st.2 (Own.pu.2 ⟨rfl, o'.swap.drop⟩)⟩
theorem Tb.at {g n m : Nat} {T : TypeId} {xs : List Value} (o : Own w (Tb true (.slice (some ⟨g, 0, none⟩) n m) T xs :: R)) {j : Nat} (hj : j < xs.length) : w.cell? ⟨g, j, none⟩ = some xs[j] := by
  unfold Tb at o
  rw [if_pos rfl] at o
  obtain ⟨g', o⟩ := Own.ex.1 o
  obtain ⟨h, o⟩ := Own.pu.1 (Own.st.1 o)
  simp only [Value.slice.injEq, Option.some.injEq, Addr.mk.injEq] at h
  obtain ⟨⟨rfl, _⟩, _⟩ := h
  exact Own.cell o j (List.getElem?_eq_getElem hj)
theorem Tb.val {v : Value} {T : TypeId} {xs : List Value} (o : Own w (Tb true v T xs :: R)) : ∃ g : Nat, v = .slice (some ⟨g, 0, none⟩) xs.length xs.length := by
  unfold Tb at o
  rw [if_pos rfl] at o
  obtain ⟨g, o⟩ := Own.ex.1 o
  exact ⟨g, (Own.pu.1 (Own.st.1 o)).1⟩
theorem tblInt {k : IntKind} (l : List Int) {x : Value} (h : x ∈ l.map (Value.int k)) : ∃ y : Int, x = .int k y := by
  obtain ⟨y, _, rfl⟩ := List.mem_map.1 h
  exact ⟨y, rfl⟩
/-- What is known of the values of such a table's operations: move, call, address, load. -/
structure TD (L : Nat → Bool) (v : Nat → Value) (cb b m c a l : Nat) (xs : List Value) : Prop where
  move : L m = true → v m = .pointer (some ⟨cb, 0, none⟩)
  call : L c = true → ∃ j : Nat, j < xs.length ∧ v c = .int .i64 (j : Int)
  addr : L a = true → L b = true ∧ ∃ g j : Nat, j < xs.length ∧ v b = .slice (some ⟨g, 0, none⟩) xs.length xs.length ∧ v a = .pointer (some ⟨g, j, none⟩)
  load : L l = true → v l ∈ xs
theorem TD.no {v : Nat → Value} {cb b m c a l : Nat} {xs : List Value} : TD (fun _ => false) v cb b m c a l xs :=
  ⟨fun h => (Bool.false_ne_true h).elim, fun h => (Bool.false_ne_true h).elim, fun h => (Bool.false_ne_true h).elim, fun h => (Bool.false_ne_true h).elim⟩
theorem TD.other {L : Nat → Bool} {v : Nat → Value} {cb b m c a l : Nat} {xs : List Value} (h : TD L v cb b m c a l xs) {i : Nat} (x : Value) (hL : L i = false) (hn : i ≠ m ∧ i ≠ c ∧ i ≠ a ∧ i ≠ l) :
    TD (dIns L i) (dUpd v i x) cb b m c a l xs := by
  obtain ⟨h1, h2, h3, h4⟩ := hn
  refine ⟨fun hh => ?_, fun hh => ?_, fun hh => ?_, fun hh => ?_⟩
  · simp only [dIns, dUpd, if_neg (Ne.symm h1)] at hh ⊢; exact h.move hh
  · simp only [dIns, dUpd, if_neg (Ne.symm h2)] at hh ⊢; exact h.call hh
  · simp only [dIns, if_neg (Ne.symm h3)] at hh
    obtain ⟨k1, g, j, k2, k3, k4⟩ := h.addr hh
    have hb : b ≠ i := by rintro rfl; rw [hL] at k1; cases k1
    simp only [dIns, dUpd, if_neg (Ne.symm h3), if_neg hb]
    exact ⟨k1, g, j, k2, k3, k4⟩
  · simp only [dIns, dUpd, if_neg (Ne.symm h4)] at hh ⊢; exact h.load hh
theorem TD.doMove {L : Nat → Bool} {v : Nat → Value} {cb b m c a l : Nat} {xs : List Value} (h : TD L v cb b m c a l xs) (hL : L m = false) (hn : m ≠ c ∧ m ≠ a ∧ m ≠ l) :
    TD (dIns L m) (dUpd v m (.pointer (some ⟨cb, 0, Option.none⟩))) cb b m c a l xs := by
  obtain ⟨h2, h3, h4⟩ := hn
  refine ⟨fun _ => by simp [dUpd], fun hh => ?_, fun hh => ?_, fun hh => ?_⟩
  · simp only [dIns, dUpd, if_neg (Ne.symm h2)] at hh ⊢; exact h.call hh
  · simp only [dIns, if_neg (Ne.symm h3)] at hh
    obtain ⟨k1, g, j, k2, k3, k4⟩ := h.addr hh
    have hb : b ≠ m := by rintro rfl; rw [hL] at k1; cases k1
    simp only [dIns, dUpd, if_neg (Ne.symm h3), if_neg hb]
    exact ⟨k1, g, j, k2, k3, k4⟩
  · simp only [dIns, dUpd, if_neg (Ne.symm h4)] at hh ⊢; exact h.load hh
theorem TD.doCall {L : Nat → Bool} {v : Nat → Value} {cb b m c a l : Nat} {xs : List Value} (h : TD L v cb b m c a l xs) (hL : L c = false) (hn : c ≠ m ∧ c ≠ a ∧ c ≠ l) {j : Nat} (hj : j < xs.length) :
    TD (dIns L c) (dUpd v c (.int .i64 (j : Int))) cb b m c a l xs := by
  obtain ⟨h2, h3, h4⟩ := hn
  refine ⟨fun hh => ?_, fun hh => ⟨j, hj, by simp [dUpd]⟩, fun hh => ?_, fun hh => ?_⟩
  · simp only [dIns, dUpd, if_neg (Ne.symm h2)] at hh ⊢; exact h.move hh
  · simp only [dIns, if_neg (Ne.symm h3)] at hh
    obtain ⟨k1, g, j, k2, k3, k4⟩ := h.addr hh
    have hb : b ≠ c := by rintro rfl; rw [hL] at k1; cases k1
    simp only [dIns, dUpd, if_neg (Ne.symm h3), if_neg hb]
    exact ⟨k1, g, j, k2, k3, k4⟩
  · simp only [dIns, dUpd, if_neg (Ne.symm h4)] at hh ⊢; exact h.load hh
theorem TD.doAddr {L : Nat → Bool} {v : Nat → Value} {cb b m c a l : Nat} {xs : List Value} (h : TD L v cb b m c a l xs) (hL : L a = false) (hn : a ≠ m ∧ a ≠ c ∧ a ≠ l) (hb : L b = true) {g j : Nat} (hj : j < xs.length) (hv : v b = .slice (some ⟨g, 0, Option.none⟩) xs.length xs.length) :
    TD (dIns L a) (dUpd v a (.pointer (some ⟨g, j, Option.none⟩))) cb b m c a l xs := by
  obtain ⟨h2, h3, h4⟩ := hn
  have hba : b ≠ a := by rintro rfl; rw [hL] at hb; cases hb
  refine ⟨fun hh => ?_, fun hh => ?_, fun hh => ⟨?_, g, j, hj, ?_, ?_⟩, fun hh => ?_⟩
  · simp only [dIns, dUpd, if_neg (Ne.symm h2)] at hh ⊢; exact h.move hh
  · simp only [dIns, dUpd, if_neg (Ne.symm h3)] at hh ⊢; exact h.call hh
  · simp only [dIns, if_neg hba]; exact hb
  · simp only [dUpd, if_neg hba]; exact hv
  · simp [dUpd]
  · simp only [dIns, dUpd, if_neg (Ne.symm h4)] at hh ⊢; exact h.load hh
theorem TD.doLoad {L : Nat → Bool} {v : Nat → Value} {cb b m c a l : Nat} {xs : List Value} (h : TD L v cb b m c a l xs) (hL : L l = false) (hn : l ≠ m ∧ l ≠ c ∧ l ≠ a) {x : Value} (hx : x ∈ xs) :
    TD (dIns L l) (dUpd v l x) cb b m c a l xs := by
  obtain ⟨h2, h3, h4⟩ := hn
  refine ⟨fun hh => ?_, fun hh => ?_, fun hh => ?_, fun hh => by simpa [dUpd] using hx⟩
  · simp only [dIns, dUpd, if_neg (Ne.symm h2)] at hh ⊢; exact h.move hh
  · simp only [dIns, dUpd, if_neg (Ne.symm h3)] at hh ⊢; exact h.call hh
  · simp only [dIns, if_neg (Ne.symm h4)] at hh
    obtain ⟨k1, g, j, k2, k3, k4⟩ := h.addr hh
    have hb : b ≠ l := by rintro rfl; rw [hL] at k1; cases k1
    simp only [dIns, dUpd, if_neg (Ne.symm h4), if_neg hb]
    exact ⟨k1, g, j, k2, k3, k4⟩
def dOne (b : Bool) : Nat := if b = true then 1 else 0
theorem dOne_le (b : Bool) : dOne b ≤ 1 := by unfold dOne; split <;> omega
theorem dOne_no : dOne false = 0 := rfl
theorem dOne_yes : dOne true = 1 := rfl
end
end Go.Proofs.Ytkmlkpfabkhleaa

/- The program's ledger of lags: Transfer. -/
namespace Go.Proofs.Ytkmlkpfabkhleaa
open Go.RowKit
open SP
section
variable {W w w' : World} {b N : Nat} {L : List Tg} {R : List SP}

theorem nMove_none {c s n : Int} (h : fget L c = none ∨ fget L s = none) : nMove L c s n = (6, L) := by
  unfold nMove
  rcases h with h | h
  · rw [h]
  · rw [h]; cases fget L c <;> rfl
theorem nMove_some {c s n : Int} {a d : Tg} (hc : fget L c = some a) (hs : fget L s = some d) : nMove L c s n =
    if n < 1 ∨ 4096 < n then (1, L) else if c = s then (0, L)
    else if 1099511627776 < a.s + n ∨ 1099511627776 < d.s - n ∨ a.s + n < -1099511627776 ∨ d.s - n < -1099511627776 then (2, L)
    else (0, setT ⟨s, d.w, d.s - n⟩ (setT ⟨c, a.w, a.s + n⟩ L)) := by
  unfold nMove; rw [hc, hs]
/-- What a lookup gives. -/
theorem lookN_any {ab : Nat} {m : List (Int × Tg)} (o : Own w (mpI accV ab m :: R)) (hm : RepN m L) (k : Int) :
    ∃ (wt s : Int) (z : Bool), (Instr.lookup 144 (.map (some ab)) (.int .i64 k) true).run Try.prog w = .ok (.tuple #[.agg #[.int .i64 wt, .int .i64 s], .bool z]) w ∧ (z = true → ∃ t, fget L k = some t ∧ t.w = wt ∧ t.s = s) ∧ (z = false → fget L k = none) := by
  cases hf : fget L k with
  | none => exact ⟨0, 0, false, lookN_none o hm hf, fun h => by simp at h, fun _ => rfl⟩
  | some t => exact ⟨t.w, t.s, true, lookN_some o hm hf, fun _ => ⟨t, rfl, rfl, rfl⟩, fun h => by simp at h⟩

def mvMap (c s : Int) (a d : Tg) (x y : Int) (m : List (Int × Tg)) (L : Nat → Bool) : List (Int × Tg) :=
  if L 17 then mput (mput m c ⟨c, a.w, x⟩) s ⟨s, d.w, y⟩ else if L 14 then mput m c ⟨c, a.w, x⟩ else m
def MvInv (b h g ab : Nat) (c s : Int) (a d : Tg) (x y : Int) (m : List (Int × Tg)) (R : List SP) (w : World) (L : Nat → Bool) (v : Nat → Value) (wc : World) : Prop :=
  Own wc (mpI accV ab (mvMap c s a d x y m L) :: cel g 142 [.int .i64 d.w, .int .i64 y] :: cel h 142 [.int .i64 a.w, .int .i64 x] :: cel b 146 [.map (some ab)] :: R) ∧ Calm w wc ∧
  ((L 0 = true → v 0 = .pointer (some ⟨b, 0, none⟩)) ∧ (L 1 = true → v 1 = .pointer (some ⟨b, 0, none⟩)) ∧ (L 2 = true → v 2 = .pointer (some ⟨b, 0, none⟩)) ∧ (L 3 = true → v 3 = .map (some ab)) ∧
  (L 4 = true → v 4 = .int .i64 c) ∧ (L 5 = true → v 5 = .pointer (some ⟨b, 0, none⟩)) ∧ (L 6 = true → v 6 = .pointer (some ⟨b, 0, none⟩)) ∧ (L 7 = true → v 7 = .pointer (some ⟨b, 0, none⟩)) ∧
  (L 8 = true → v 8 = .map (some ab)) ∧ (L 9 = true → v 9 = .int .i64 s) ∧ (L 10 = true → v 10 = .agg #[.int .i64 a.w, .int .i64 x]) ∧ (L 11 = true → v 11 = .agg #[.int .i64 d.w, .int .i64 y])) ∧
  (L 12 = true → ∃ born : Nat, v 12 = .tuple #[accV a, .int .i64 (born : Int)] ∧ (L 13 = true → v 13 = .int .i64 (born : Int)) ∧ (L 14 = false → BornAt m wc ab c born)) ∧
  (L 15 = true → ∃ born : Nat, v 15 = .tuple #[accV d, .int .i64 (born : Int)] ∧ (L 16 = true → v 16 = .int .i64 (born : Int)) ∧ (L 17 = false → BornAt (mput m c ⟨c, a.w, x⟩) wc ab s born)) ∧
  (L 13 = true → L 12 = true) ∧ (L 14 = true → L 13 = true) ∧ (L 15 = true → L 14 = true) ∧ (L 16 = true → L 15 = true) ∧ (L 17 = true → L 16 = true)

set_option maxHeartbeats 3200000 in
set_option maxRecDepth 100000 in
theorem lagMove_spec (c s n : Int) (hN : (N : Int) ≤ 1000000000000) (o : Own w (LagR b N L :: R)) :
    Calls Try.prog 40 #[.pointer (some ⟨b, 0, none⟩), .int .i64 c, .int .i64 s, .int .i64 n] w (Ret (.int .i64 (nMove L c s n).1) (LagR b (N + 1) (nMove L c s n).2 :: R) w) := by
  obtain ⟨ab, m, hm, hok, o1⟩ := LagR.iff.1 o
  have o' := LagR.le (Nat.le_succ N) o
  have c1 := o1.cell 0
  have hbl := o1.celLt
  have hbn : b ≠ w.heap.size := by omega
  have hbn2 : b ≠ w.heap.size + 1 := by omega
  obtain ⟨wa, sa, za, hla, ta, fa⟩ := lookN_any (o1.up 1) hm c
  obtain ⟨wd, sd, zd, hld, td, fd⟩ := lookN_any ((o1.alloc (.cells #[.int .i64 wa, .int .i64 sa] 142)).up 2) hm s
  have fin : ∀ x y, Ret (.int .i64 6) (LagR b (N + 1) L :: R) w (.returned (.int .i64 6)) ((w.alloc x).alloc y) := fun x y => ⟨rfl, (o'.more x).more y, ⟨rfl, rfl, rfl⟩⟩
  cases za with
  | false =>
    rw [nMove_none (.inl (fa rfl))]
    clear ta fa td fd
    cases zd
    all_goals
      go_enter Try.func40, Try.ntmps40
      go_wp2
      go_ret
      exact fin _ _
  | true =>
    cases zd with
    | false =>
      rw [nMove_none (.inr (fd rfl))]
      clear ta fa td fd
      go_enter Try.func40, Try.ntmps40
      go_wp2
      go_ret
      exact fin _ _
    | true =>
      obtain ⟨a, hfa, rfl, rfl⟩ := ta rfl
      obtain ⟨d, hfd, rfl, rfl⟩ := td rfl
      rw [nMove_some hfa hfd]
      clear fin ta fa td fd
      by_cases hbad : n < 1 ∨ 4096 < n
      · rw [if_pos hbad]
        have fin : ∀ x y, Ret (.int .i64 1) (LagR b (N + 1) L :: R) w (.returned (.int .i64 1)) ((w.alloc x).alloc y) := fun x y => ⟨rfl, (o'.more x).more y, ⟨rfl, rfl, rfl⟩⟩
        by_cases h1 : n < 1
        · clear hbad
          go_enter Try.func40, Try.ntmps40
          go_wp2
          go_ret
          exact fin _ _
        · have h2 : 4096 < n := by omega
          clear hbad
          go_enter Try.func40, Try.ntmps40
          go_wp2
          go_ret
          exact fin _ _
      · rw [if_neg hbad]
        have h1 : ¬ n < 1 := by omega
        have h2 : ¬ 4096 < n := by omega
        clear hbad
        by_cases hcs : c = s
        · rw [if_pos hcs]
          subst hcs
          have fin : ∀ x y, Ret (.int .i64 0) (LagR b (N + 1) L :: R) w (.returned (.int .i64 0)) ((w.alloc x).alloc y) := fun x y => ⟨rfl, (o'.more x).more y, ⟨rfl, rfl, rfl⟩⟩
          go_enter Try.func40, Try.ntmps40
          go_wp2
          go_ret
          exact fin _ _
        · rw [if_neg hcs]
          have hcb : (c == s) = false := by simpa using hcs
          have hla2 := hok.lag (fget_some hfa).1
          have hld2 := hok.lag (fget_some hfd).1
          have hra := hok.ok.rng a (fget_some hfa).1
          have hrd := hok.ok.rng d (fget_some hfd).1
          obtain ⟨x, hx⟩ : ∃ x, a.s + n = x := ⟨_, rfl⟩
          obtain ⟨y, hy⟩ : ∃ y, d.s - n = y := ⟨_, rfl⟩
          have wx : IntKind.i64.wrap (a.s + n) = x := by rw [IntKind.wrap_i64]; omega
          have wy : IntKind.i64.wrap (d.s - n) = y := by rw [IntKind.wrap_i64]; omega
          have hms := nMove_ok hok c s n
          rw [nMove_some hfa hfd, if_neg (by omega), if_neg hcs] at hms
          rw [hx, hy] at hms ⊢
          obtain ⟨M, hM⟩ : ∃ M, max x y = M := ⟨_, rfl⟩
          obtain ⟨K, hK⟩ : ∃ K, min x y = K := ⟨_, rfl⟩
          by_cases hr : 1099511627776 < x ∨ 1099511627776 < y ∨ x < -1099511627776 ∨ y < -1099511627776
          · rw [if_pos hr]
            clear hms hx hy hla2 hld2 hra hrd
            by_cases hM2 : 1099511627776 < M
            · have f1 : decide (1099511627776 < M) = true := decide_eq_true hM2
              go_enter Try.func40, Try.ntmps40
              go_wp2
              go_ret
              exact ⟨rfl, (o'.more _).more _, ⟨rfl, rfl, rfl⟩⟩
            · have f1 : decide (1099511627776 < M) = false := decide_eq_false hM2
              have f2 : decide (K < -1099511627776) = true := decide_eq_true (by omega)
              go_enter Try.func40, Try.ntmps40
              go_wp2
              go_ret
              exact ⟨rfl, (o'.more _).more _, ⟨rfl, rfl, rfl⟩⟩
          · rw [if_neg hr] at hms ⊢
            have f1 : decide (1099511627776 < M) = false := decide_eq_false (by omega)
            have f2 : decide (K < -1099511627776) = false := decide_eq_false (by omega)
            have hrep1 : RepN (mput m c ⟨c, a.w, x⟩) (setT ⟨c, a.w, x⟩ L) := hm.set (x := ⟨c, a.w, x⟩) (by show fget L c ≠ none; rw [hfa]; simp) (by have := (fget_some hfa).2; refine ⟨?_, ?_, ?_, ?_⟩ <;> (simp only; omega))
            have hfd2 : fget (setT ⟨c, a.w, x⟩ L) s = some d := by
              have h5 := fget_memN hrep1.ok (mem_setT_of (fget_some hfd).1 (x := ⟨c, a.w, x⟩) (by have := (fget_some hfd).2; simp only; omega))
              rw [(fget_some hfd).2] at h5
              exact h5
            have hrep2 : RepN (mput (mput m c ⟨c, a.w, x⟩) s ⟨s, d.w, y⟩) (setT ⟨s, d.w, y⟩ (setT ⟨c, a.w, x⟩ L)) := hrep1.set (x := ⟨s, d.w, y⟩) (by show fget _ s ≠ none; rw [hfd2]; simp) (by have := (fget_some hfd).2; refine ⟨?_, ?_, ?_, ?_⟩ <;> (simp only; omega))
            have hga : mget m c = some a := by rw [hm.get]; exact hfa
            have hgd : mget (mput m c ⟨c, a.w, x⟩) s = some d := by rw [hrep1.get]; exact hfd2
            have hok2 := hms.1
            have oA := o1.alloc (.cells #[.int .i64 a.w, .int .i64 x] 142)
            have oB := oA.alloc (.cells #[.int .i64 d.w, .int .i64 y] 142)
            clear hms hr hx hy hla2 hld2 hra hrd hrep1 hfd2 hfa hfd o' hm hok
            go_enter Try.func40, Try.ntmps40
            go_wp2
            refine wp_region_draws (MvInv b w.heap.size (w.heap.size + 1) ab c s a d x y m R w) (by kernel_rfl) (by kernel_rfl) (by kernel_rfl) ?h0 ?step ?fin
            case h0 =>
              have F : ∀ {p : Prop}, false = true → p := fun h => (Bool.false_ne_true h).elim
              simp only [World.size_alloc] at oB
              exact ⟨(oB.re [3, 0, 1, 2]).drew, ⟨rfl, rfl, rfl⟩, ⟨F, F, F, F, F, F, F, F, F, F, F, F⟩, F, F, F, F, F, F, F⟩
            case step =>
              refine ⟨DrawStep.mk rfl ?_, DrawStep.mk rfl ?_, DrawStep.mk rfl ?_, DrawStep.mk rfl ?_, DrawStep.mk rfl ?_, DrawStep.mk rfl ?_, DrawStep.mk rfl ?_, DrawStep.mk rfl ?_, DrawStep.mk rfl ?_, DrawStep.mk rfl ?_, DrawStep.mk rfl ?_, DrawStep.mk rfl ?_, DrawStep.mk rfl ?_, DrawStep.mk rfl ?_, DrawStep.mk rfl ?_, DrawStep.mk rfl ?_, DrawStep.mk rfl ?_, DrawStep.mk rfl ?_, trivial⟩
              all_goals intro L v ac wc hL hd hA hI K' hK
              all_goals obtain ⟨oD, kD, ⟨f0, f1, f2, f3, f4, f5, f6, f7, f8, f9, f10, f11⟩, e12, e15, l13, l14, l15, l16, l17⟩ := hI
              all_goals simp [Region.binds] at hd
              · have c0 := hA.base 0 (by rfl)
                simp only [List.getElem?_toArray, List.getElem?_cons_zero, Option.getD_some] at c0
                go_simp
                exact hK.out _ _ ⟨oD, kD, ⟨fun _ => rfl, f1, f2, f3, f4, f5, f6, f7, f8, f9, f10, f11⟩, e12, e15, l13, l14, l15, l16, l17⟩
              · have c0 := (hA.get 0 hd).trans (f0 hd)
                go_simp
                exact hK.out _ _ ⟨oD, kD, ⟨f0, fun _ => rfl, f2, f3, f4, f5, f6, f7, f8, f9, f10, f11⟩, e12, e15, l13, l14, l15, l16, l17⟩
              · have c0 := (hA.get 1 hd).trans (f1 hd)
                go_simp
                exact hK.out _ _ ⟨oD, kD, ⟨f0, f1, fun _ => rfl, f3, f4, f5, f6, f7, f8, f9, f10, f11⟩, e12, e15, l13, l14, l15, l16, l17⟩
              · have c0 := (hA.get 2 hd).trans (f2 hd)
                have cc := (oD.up 3).cell 0
                go_simp
                exact hK.out _ _ ⟨oD, kD, ⟨f0, f1, f2, fun _ => rfl, f4, f5, f6, f7, f8, f9, f10, f11⟩, e12, e15, l13, l14, l15, l16, l17⟩
              · have c0 := hA.base 1 (by rfl)
                simp only [List.getElem?_toArray, List.getElem?_cons_zero, List.getElem?_cons_succ, Option.getD_some] at c0
                go_simp
                exact hK.out _ _ ⟨oD, kD, ⟨f0, f1, f2, f3, fun _ => rfl, f5, f6, f7, f8, f9, f10, f11⟩, e12, e15, l13, l14, l15, l16, l17⟩
              · have c0 := hA.base 0 (by rfl)
                simp only [List.getElem?_toArray, List.getElem?_cons_zero, Option.getD_some] at c0
                go_simp
                exact hK.out _ _ ⟨oD, kD, ⟨f0, f1, f2, f3, f4, fun _ => rfl, f6, f7, f8, f9, f10, f11⟩, e12, e15, l13, l14, l15, l16, l17⟩
              · have c0 := (hA.get 5 hd).trans (f5 hd)
                go_simp
                exact hK.out _ _ ⟨oD, kD, ⟨f0, f1, f2, f3, f4, f5, fun _ => rfl, f7, f8, f9, f10, f11⟩, e12, e15, l13, l14, l15, l16, l17⟩
              · have c0 := (hA.get 6 hd).trans (f6 hd)
                go_simp
                exact hK.out _ _ ⟨oD, kD, ⟨f0, f1, f2, f3, f4, f5, f6, fun _ => rfl, f8, f9, f10, f11⟩, e12, e15, l13, l14, l15, l16, l17⟩
              · have c0 := (hA.get 7 hd).trans (f7 hd)
                have cc := (oD.up 3).cell 0
                go_simp
                exact hK.out _ _ ⟨oD, kD, ⟨f0, f1, f2, f3, f4, f5, f6, f7, fun _ => rfl, f9, f10, f11⟩, e12, e15, l13, l14, l15, l16, l17⟩
              · have c0 := hA.base 2 (by rfl)
                simp only [List.getElem?_toArray, List.getElem?_cons_zero, List.getElem?_cons_succ, Option.getD_some] at c0
                go_simp
                exact hK.out _ _ ⟨oD, kD, ⟨f0, f1, f2, f3, f4, f5, f6, f7, f8, fun _ => rfl, f10, f11⟩, e12, e15, l13, l14, l15, l16, l17⟩
              · have c0 := hA.base 9 (by rfl)
                simp only [List.getElem?_toArray, List.getElem?_cons_zero, List.getElem?_cons_succ, Option.getD_some] at c0
                have cc := (oD.up 2).cell 0
                have cc1 := (oD.up 2).cell 1
                go_simp
                exact hK.out _ _ ⟨oD, kD, ⟨f0, f1, f2, f3, f4, f5, f6, f7, f8, f9, fun _ => rfl, f11⟩, e12, e15, l13, l14, l15, l16, l17⟩
              · have c0 := hA.base 11 (by rfl)
                simp only [List.getElem?_toArray, List.getElem?_cons_zero, List.getElem?_cons_succ, Option.getD_some] at c0
                have cc := (oD.up 1).cell 0
                have cc1 := (oD.up 1).cell 1
                go_simp
                exact hK.out _ _ ⟨oD, kD, ⟨f0, f1, f2, f3, f4, f5, f6, f7, f8, f9, f10, fun _ => rfl⟩, e12, e15, l13, l14, l15, l16, l17⟩
              · have c0 := (hA.get 3 hd.1).trans (f3 hd.1)
                have c4 := (hA.get 4 hd.2.1).trans (f4 hd.2.1)
                have n13 : L 13 = false := by cases h : L 13 with | false => rfl | true => rw [l13 h] at hL; cases hL
                have n14 : L 14 = false := by cases h : L 14 with | false => rfl | true => rw [l14 h] at n13; cases n13
                have n15 : L 15 = false := by cases h : L 15 with | false => rfl | true => rw [l15 h] at n14; cases n14
                have n16 : L 16 = false := by cases h : L 16 with | false => rfl | true => rw [l16 h] at n15; cases n15
                have n17 : L 17 = false := by cases h : L 17 with | false => rfl | true => rw [l17 h] at n16; cases n16
                have eM : mvMap c s a d x y m L = m := by unfold mvMap; rw [n17, n14]; rfl
                rw [eM] at oD
                obtain ⟨w2, born, hr, hB, o2, k2⟩ := run_mapEntry_mpI Try.underlying144 Try.underlying3 oD c hga
                have o3 : Own w2 (mpI accV ab (mvMap c s a d x y m L) :: cel (w.heap.size + 1) 142 [.int .i64 d.w, .int .i64 y] :: cel w.heap.size 142 [.int .i64 a.w, .int .i64 x] :: cel b 146 [.map (some ab)] :: R) := by rw [eM]; exact o2
                go_simp
                exact hK.out _ _ ⟨o3, kD.trans k2, ⟨f0, f1, f2, f3, f4, f5, f6, f7, f8, f9, f10, f11⟩, fun _ => ⟨born, rfl, fun h => (Bool.false_ne_true (n13.symm.trans h)).elim, fun _ => hB⟩, fun h => (Bool.false_ne_true (n15.symm.trans h)).elim, fun h => rfl, l14, l15, l16, l17⟩
              · obtain ⟨born, h12, h13, hB⟩ := e12 hd
                have c0 := (hA.get 12 hd).trans h12
                go_simp
                exact hK.out _ _ ⟨oD, kD, ⟨f0, f1, f2, f3, f4, f5, f6, f7, f8, f9, f10, f11⟩, fun _ => ⟨born, h12, fun _ => rfl, hB⟩, e15, fun _ => hd, fun h => rfl, l15, l16, l17⟩
              · obtain ⟨born, h12, h13, hB⟩ := e12 hd.2.2.2.1
                have c0 := (hA.get 3 hd.1).trans (f3 hd.1)
                have c1' := (hA.get 13 hd.2.1).trans (h13 hd.2.1)
                have c2 := (hA.get 10 hd.2.2.1).trans (f10 hd.2.2.1)
                have hd13 := hd.2.1
                have n15 : L 15 = false := by cases h : L 15 with | false => rfl | true => rw [l15 h] at hL; cases hL
                have n16 : L 16 = false := by cases h : L 16 with | false => rfl | true => rw [l16 h] at n15; cases n15
                have n17 : L 17 = false := by cases h : L 17 with | false => rfl | true => rw [l17 h] at n16; cases n16
                have eM : mvMap c s a d x y m L = m := by unfold mvMap; rw [n17, hL]; rfl
                rw [eM] at oD
                obtain ⟨w2, hr, o2, k2⟩ := run_entryStore_mpI (P := Try.prog) (t := 144) oD c ⟨c, a.w, x⟩ (hB hL)
                have o3 : Own w2 (mpI accV ab (mvMap c s a d x y m (dIns L 14)) :: cel (w.heap.size + 1) 142 [.int .i64 d.w, .int .i64 y] :: cel w.heap.size 142 [.int .i64 a.w, .int .i64 x] :: cel b 146 [.map (some ab)] :: R) := by
                  have : mvMap c s a d x y m (dIns L 14) = mput m c ⟨c, a.w, x⟩ := by unfold mvMap; rw [show dIns L 14 17 = L 17 from rfl, n17]; rfl
                  rw [this]; exact o2
                have hr' : (Instr.entryStore 144 (.map (some ab)) (.int .i64 (born : Int)) (.agg #[.int .i64 a.w, .int .i64 x])).run Try.prog wc = .ok () w2 := hr
                go_simp
                exact hK.out undef _ ⟨o3, kD.trans k2, ⟨f0, f1, f2, f3, f4, f5, f6, f7, f8, f9, f10, f11⟩, fun h => ⟨born, h12, h13, fun h => (Bool.false_ne_true h.symm).elim⟩, fun h => (Bool.false_ne_true (n15.symm.trans h)).elim, l13, fun _ => hd13, fun h => rfl, l16, l17⟩
              · have c0 := (hA.get 8 hd.1).trans (f8 hd.1)
                have c4 := (hA.get 9 hd.2.1).trans (f9 hd.2.1)
                have h14 := hd.2.2.1
                have n16 : L 16 = false := by cases h : L 16 with | false => rfl | true => rw [l16 h] at hL; cases hL
                have n17 : L 17 = false := by cases h : L 17 with | false => rfl | true => rw [l17 h] at n16; cases n16
                have eM : mvMap c s a d x y m L = mput m c ⟨c, a.w, x⟩ := by unfold mvMap; rw [n17, h14]; rfl
                rw [eM] at oD
                obtain ⟨w2, born, hr, hB, o2, k2⟩ := run_mapEntry_mpI Try.underlying144 Try.underlying3 oD s hgd
                have o3 : Own w2 (mpI accV ab (mvMap c s a d x y m L) :: cel (w.heap.size + 1) 142 [.int .i64 d.w, .int .i64 y] :: cel w.heap.size 142 [.int .i64 a.w, .int .i64 x] :: cel b 146 [.map (some ab)] :: R) := by rw [eM]; exact o2
                have e12' : ∃ born : Nat, v 12 = .tuple #[accV a, .int .i64 (born : Int)] ∧ (L 13 = true → v 13 = .int .i64 (born : Int)) ∧ (L 14 = false → BornAt m w2 ab c born) := by
                  obtain ⟨b0, h1, h2, _⟩ := e12 (l13 (l14 h14))
                  exact ⟨b0, h1, h2, fun h => (by rw [h14] at h; cases h)⟩
                go_simp
                exact hK.out _ _ ⟨o3, kD.trans k2, ⟨f0, f1, f2, f3, f4, f5, f6, f7, f8, f9, f10, f11⟩, fun _ => e12', fun _ => ⟨born, rfl, fun h => (Bool.false_ne_true (n16.symm.trans h)).elim, fun _ => hB⟩, l13, l14, fun _ => h14, fun h => rfl, l17⟩
              · obtain ⟨born, h12, h13, hB⟩ := e15 hd
                have c0 := (hA.get 15 hd).trans h12
                go_simp
                exact hK.out _ _ ⟨oD, kD, ⟨f0, f1, f2, f3, f4, f5, f6, f7, f8, f9, f10, f11⟩, e12, fun _ => ⟨born, h12, fun _ => rfl, hB⟩, l13, l14, l15, fun _ => hd, fun h => rfl⟩
              · obtain ⟨born, h12, h13, hB⟩ := e15 hd.2.2.2.1
                have c0 := (hA.get 8 hd.1).trans (f8 hd.1)
                have c1' := (hA.get 16 hd.2.1).trans (h13 hd.2.1)
                have c2 := (hA.get 11 hd.2.2.1).trans (f11 hd.2.2.1)
                have hd16 := hd.2.1
                have h14 := l15 (l16 hd16)
                have eM : mvMap c s a d x y m L = mput m c ⟨c, a.w, x⟩ := by unfold mvMap; rw [hL, h14]; rfl
                rw [eM] at oD
                obtain ⟨w2, hr, o2, k2⟩ := run_entryStore_mpI (P := Try.prog) (t := 144) oD s ⟨s, d.w, y⟩ (hB hL)
                have o3 : Own w2 (mpI accV ab (mvMap c s a d x y m (dIns L 17)) :: cel (w.heap.size + 1) 142 [.int .i64 d.w, .int .i64 y] :: cel w.heap.size 142 [.int .i64 a.w, .int .i64 x] :: cel b 146 [.map (some ab)] :: R) := o2
                have hr' : (Instr.entryStore 144 (.map (some ab)) (.int .i64 (born : Int)) (.agg #[.int .i64 d.w, .int .i64 y])).run Try.prog wc = .ok () w2 := hr
                have e12' : ∃ born : Nat, v 12 = .tuple #[accV a, .int .i64 (born : Int)] ∧ (L 13 = true → v 13 = .int .i64 (born : Int)) ∧ (L 14 = false → BornAt m w2 ab c born) := by
                  obtain ⟨b0, h1, h2, _⟩ := e12 (l13 (l14 h14))
                  exact ⟨b0, h1, h2, fun h => (by rw [h14] at h; cases h)⟩
                go_simp
                exact hK.out undef _ ⟨o3, kD.trans k2, ⟨f0, f1, f2, f3, f4, f5, f6, f7, f8, f9, f10, f11⟩, fun _ => e12', fun h => ⟨born, h12, h13, fun h => (Bool.false_ne_true h.symm).elim⟩, l13, l14, l15, l16, fun _ => hd16⟩
            case fin =>
              rintro L v wc hall ⟨oD, kD, _⟩
              have eM : mvMap c s a d x y m L = mput (mput m c ⟨c, a.w, x⟩) s ⟨s, d.w, y⟩ := by unfold mvMap; rw [hall 17 (by decide)]; rfl
              rw [eM] at oD
              clear hall
              simp only [putAll, Act.put, List.setIfInBounds_toArray, List.set_cons_zero, List.set_cons_succ]
              go_wp2
              go_ret
              exact ⟨rfl, LagR.iff.2 ⟨ab, _, hrep2, hok2, oD.re [3, 0, 1, 2] |>.re [0, 1] |> fun q => (q.up 2).drop.up 2 |>.drop⟩, kD⟩
end
end Go.Proofs.Ytkmlkpfabkhleaa

/- The program's ledger of lags: Leave. -/
namespace Go.Proofs.Ytkmlkpfabkhleaa
open Go.RowKit
open SP
section
variable {W w w' : World} {b N : Nat} {L : List Tg} {R : List SP}

theorem setT_none {x : Tg} : ∀ {L : List Tg}, (∀ t ∈ L, t.f ≠ x.f) → setT x L = L
  | [], _ => rfl
  | a :: L, h => by
    show (if a.f = x.f then x else a) :: setT x L = _
    rw [if_neg (h a (by simp)), setT_none fun t ht => h t (by simp [ht])]
theorem addS_step : ∀ {L : List Tg} {Q : List Int} {i : Nat} {t : Tg} {q : Int}, (L.map (·.f)).Pairwise (· < ·) → L[i]? = some t → Q[i]? = some q →
    (addS L (Q.take i))[i]? = some t ∧ setT ⟨t.f, t.w, t.s + q⟩ (addS L (Q.take i)) = addS L (Q.take (i + 1))
  | [], _, i, t, q, _, h, _ => by simp at h
  | _ :: _, [], i, t, q, _, _, h => by simp at h
  | a :: L, p :: Q, 0, t, q, hp, h, h' => by
    rw [List.map_cons, List.pairwise_cons] at hp
    simp only [List.getElem?_cons_zero, Option.some.injEq] at h h'
    subst h; subst h'
    rw [List.take_zero, addS_nil]
    refine ⟨rfl, ?_⟩
    show (if a.f = a.f then (⟨a.f, a.w, a.s + p⟩ : Tg) else a) :: setT ⟨a.f, a.w, a.s + p⟩ L = ⟨a.f, a.w, a.s + p⟩ :: addS L []
    rw [if_pos rfl, addS_nil, setT_none]
    intro u hu
    have := hp.1 u.f (List.mem_map.2 ⟨u, hu, rfl⟩)
    simp only; omega
  | a :: L, p :: Q, i + 1, t, q, hp, h, h' => by
    rw [List.map_cons, List.pairwise_cons] at hp
    rw [List.getElem?_cons_succ] at h h'
    obtain ⟨h1, h2⟩ := addS_step (L := L) (Q := Q) hp.2 h h'
    rw [List.take_succ_cons, List.take_succ_cons, addS_cons, addS_cons]
    refine ⟨by rw [List.getElem?_cons_succ]; exact h1, ?_⟩
    have hlt := hp.1 t.f (List.mem_map.2 ⟨t, List.mem_of_getElem? h, rfl⟩)
    show (if a.f = t.f then _ else _) :: setT _ _ = _
    rw [if_neg (by omega), h2]
theorem LgOk.del (h : LgOk N L) {t : Tg} (ht : t ∈ L) : LgOk N (delT t.f L) :=
  ⟨h.ok.del _, by have h1 := (delT_sums h.ok.asc' ht).1; have h2 := h.sm; have h3 := ab_nonneg t.s; omega⟩

def LvRel (b ab h : Nat) (t : Tg) (D : List Tg) (Q : List Int) (ga pa : Option Addr) (gc pc : Nat) (R : List SP) (w : World) (v41 : Value) (wr : World) : Prop :=
  ∃ (i : Nat) (m : List (Int × Tg)), v41 = .int .i64 (i : Int) ∧ i ≤ D.length ∧ RepN m (addS D (Q.take i)) ∧
    Own wr (cel b 146 [.map (some ab)] :: mpI accV ab m :: slc 2 1 ga D.length gc (i64s Q) :: slc 134 2 pa D.length pc (flat part (ptsOf D)) :: cel h 142 [.int .i64 t.w, .int .i64 t.s] :: R) ∧ Calm w wr

end
end Go.Proofs.Ytkmlkpfabkhleaa

/- Cifq, plain: what the slots keep. -/
namespace Go.Proofs.Ytkmlkpfabkhleaa
open Go.RowKit
open SP

structure OInv (i : Nat) (o : Ord) : Prop where
  pts : PtOk o.el
  uniq : Uniq o.tg
  val : ∀ f, 0 ≤ tget o.tg f ∧ tget o.tg f ≤ i * 2952069120
  tm : 0 ≤ o.tm ∧ o.tm ≤ i * 2952069120
  low : ∀ p ∈ o.el, o.tm ≤ tget o.tg p.1
  up : ∀ f, tget o.tg f ≤ o.tm + 2952069120

theorem PtOk.sub {l m : List (Int × Int)} (h : PtOk l) (hm : m.Sublist l) : PtOk m :=
  ⟨h.asc.sublist hm, fun p hp => h.rng p (hm.subset hp), Nat.le_trans hm.length_le h.len⟩
theorem PtOk.nil : PtOk [] := ⟨.nil, by simp, by simp⟩
theorem PtOk.uniq {l : List (Int × Int)} (h : PtOk l) : Uniq l := by
  unfold Uniq
  show (l.map (·.1)).Pairwise (· ≠ ·)
  rw [List.pairwise_map]
  exact h.asc.imp fun h => by omega
theorem PtOk.key {l : List (Int × Int)} (h : PtOk l) : KeyOk l := ⟨h.uniq, fun x hx => by have := h.rng x hx; omega⟩
theorem PtOk.good {l : List (Int × Int)} (h : PtOk l) : eligBad (-1) l = false :=
  eligBad_ok l (-1) (by rw [List.pairwise_map]; exact h.asc) fun p hp => by have := h.rng p hp; omega
theorem OInv.start : OInv 0 ⟨[], [], 0⟩ := ⟨PtOk.nil, by simp [Uniq], fun f => by simp [tget, mget], by simp, by simp, fun f => by simp [tget, mget]⟩
theorem OInv.le {i j : Nat} {o : Ord} (h : OInv i o) (hj : i ≤ j) : OInv j o := by
  have hij : (i : Int) ≤ j := by omega
  exact ⟨h.pts, h.uniq, fun f => by have := h.val f; omega, by have := h.tm; omega, h.low, h.up⟩
/-- Tags that are near a small time. -/
theorem OInv.down {i : Nat} {o : Ord} (h : OInv i o) (ht : o.tm ≤ 2952069120) : OInv 2 o := by
  exact ⟨h.pts, h.uniq, fun f => by have := h.val f; have := h.up f; omega, by have := h.tm; omega, h.low, h.up⟩
theorem OInv.vals {i : Nat} {o : Ord} (h : OInv i o) : ∀ x ∈ o.tg, 0 ≤ x.2 ∧ x.2 ≤ i * 2952069120 := fun x hx => by
  rw [← tget_val h.uniq hx]; exact h.val x.1
theorem OInv.ok {i : Nat} {o : Ord} (h : OInv i o) (hi : i ≤ 370) : OrdOk o := by
  have hij : (i : Int) ≤ 370 := by omega
  exact ⟨h.pts.key, by have := h.pts.len; omega, h.uniq, fun x hx => by have := h.vals x hx; omega, by have := h.tm; omega⟩
theorem OInv.elig {i : Nat} {o : Ord} (h : OInv i o) {l : List (Int × Int)} (hl : PtOk l) : OInv i (eligO o l) := by
  unfold eligO
  have ht := h.tm
  refine ⟨by rw [eligEl_self hl.uniq]; exact hl, eligTg_uniq o.el o.tm l o.tg h.uniq, fun f => ?_, h.tm, fun p hp => ?_, fun f => ?_⟩
  · dsimp only
    rw [eligTg_get]
    have := h.val f
    split <;> omega
  · dsimp only at hp ⊢
    rw [eligEl_self hl.uniq] at hp
    rw [eligTg_get]
    split
    · omega
    · rename_i hn
      cases he : mget o.el p.1 with
      | none => exact absurd ⟨List.mem_map.2 ⟨p, hp, rfl⟩, he⟩ hn
      | some v => exact h.low (p.1, v) (mem_of_mget he)
  · dsimp only
    rw [eligTg_get]
    have := h.up f
    split <;> omega
theorem OInv.elig_el {i : Nat} {o : Ord} (_ : OInv i o) {l : List (Int × Int)} (hl : PtOk l) : (eligO o l).el = l := by
  unfold eligO; exact eligEl_self hl.uniq
theorem OInv.least {i : Nat} {o : Ord} (h : OInv i o) (hl : 0 ≤ leastF o.el o.tg) : leastF o.el o.tg ∈ o.el.map (·.1) := by
  rcases leastF_facts o.el o.tg (fun p hp => (h.pts.rng p hp).1) with ⟨_, h2⟩ | ⟨h1, _⟩
  · omega
  · exact h1
theorem OInv.least_nil {i : Nat} {o : Ord} (h : OInv i o) : leastF o.el o.tg < 0 ↔ o.el = [] := by
  rcases leastF_facts o.el o.tg (fun p hp => (h.pts.rng p hp).1) with ⟨h1, h2⟩ | ⟨h1, _⟩
  · exact ⟨fun _ => h1, fun _ => by omega⟩
  · obtain ⟨p, hp, he⟩ := List.mem_map.1 h1
    have := h.pts.rng p hp
    exact ⟨fun _ => by omega, fun e => by rw [e] at hp; cases hp⟩
/-- The least flow is served. -/
theorem OInv.serv {i : Nat} {o : Ord} (h : OInv i o) (hi : i ≤ 370) (reb : Int) {f len : Int} (hf : f = leastF o.el o.tg) (hf0 : 0 ≤ f) (h1 : 1 ≤ len) (h2 : len ≤ 4096) :
    ∃ wt, mget o.el f = some wt ∧ 1 ≤ wt ∧ wt ≤ 16 ∧ (servO reb o f len).1 = 0 ∧ OInv (i + 1) (servO reb o f len).2 ∧ (servO reb o f len).2.el = o.el ∧
      (∀ p ∈ o.el, tget o.tg f ≤ tget o.tg p.1) ∧ o.tm ≤ tget o.tg f ∧
      ∃ by_ : Int, 0 ≤ by_ ∧ by_ ≤ tget o.tg f ∧ (by_ = 0 ∧ tget o.tg f < reb ∨ by_ = tget o.tg f) ∧ (servO reb o f len).2.tm = tget o.tg f - by_ ∧
        ∀ g, tget (servO reb o f len).2.tg g = max ((if g = f then tget o.tg f + cst len wt else tget o.tg g) - by_) 0 := by
  have hij : (i : Int) ≤ 370 := by omega
  have hp0 : ∀ p ∈ o.el, 0 ≤ p.1 := fun p hp => (h.pts.rng p hp).1
  rcases leastF_facts o.el o.tg hp0 with ⟨_, he⟩ | ⟨hmem, hmin⟩
  · omega
  rw [← hf] at hmem hmin
  obtain ⟨wt, hwt⟩ := mget_isSome_of hmem
  have hin := mem_of_mget hwt
  have hw := h.pts.rng _ hin
  have hlow := h.low _ hin
  dsimp only at hw hlow
  have hg := h.val f
  have ht := h.tm
  have hel : tget o.el f = wt := by unfold tget; rw [hwt]; rfl
  obtain ⟨c1, c2⟩ := cst_range hw.2.2.1 hw.2.2.2 h1 h2
  have hfin : servFin o.el o.tg f len = (tget o.tg f + cst len wt, 0) := by
    unfold servFin finF
    rw [hel, if_neg (by unfold badLW; omega), if_neg (by omega)]
  have hE : servE o.el o.tg f len = 0 := by unfold servE; rw [hwt, hfin]; rfl
  have hTm : servTm o.tg o.tm f = tget o.tg f := by unfold servTm; omega
  have hTg : ∀ g, tget (servTg o.el o.tg f len) g = if g = f then tget o.tg f + cst len wt else tget o.tg g := fun g => by unfold servTg; rw [tget_mput, hfin]
  have hlow' : ∀ p ∈ o.el, tget o.tg f ≤ tget (servTg o.el o.tg f len) p.1 := fun p hp' => by
    rw [hTg]
    split
    · omega
    · exact hmin p hp'
  have hBy : servBy o.el o.tg o.tm f len = tget o.tg f := by
    unfold servBy
    rw [hTm]
    rcases leastF_facts o.el (servTg o.el o.tg f len) hp0 with ⟨he, _⟩ | ⟨hm2, _⟩
    · rw [he] at hin; cases hin
    · obtain ⟨q, hq, hqe⟩ := List.mem_map.1 hm2
      have := hlow' q hq
      rw [hqe] at this
      omega
  have hu1 : Uniq (servTg o.el o.tg f len) := h.uniq.mput _ _
  refine ⟨wt, hwt, hw.2.2.1, hw.2.2.2, ?_⟩
  unfold servO
  rw [if_neg (by rw [hE]; simp), hBy, hTm]
  by_cases hb : tget o.tg f < reb
  · rw [if_pos hb]
    refine ⟨rfl, ⟨h.pts, hu1, fun g => ?_, by show 0 ≤ tget o.tg f ∧ tget o.tg f ≤ ((i + 1 : Nat) : Int) * 2952069120; omega, hlow', fun g => ?_⟩, rfl, hmin, hlow, 0, by omega, hg.1, .inl ⟨rfl, hb⟩, by show tget o.tg f = _; omega, fun g => ?_⟩
    · have := h.val g
      dsimp only; rw [hTg]; push_cast
      split <;> omega
    · have := h.up g
      dsimp only; rw [hTg]
      split <;> omega
    · have := h.val g
      dsimp only; rw [hTg]
      split <;> omega
  · rw [if_neg hb]
    refine ⟨rfl, ⟨h.pts, hu1.lower _, fun g => ?_, by show 0 ≤ tget o.tg f - tget o.tg f ∧ tget o.tg f - tget o.tg f ≤ ((i + 1 : Nat) : Int) * 2952069120; omega, fun p hp => ?_, fun g => ?_⟩, rfl, hmin, hlow, tget o.tg f, hg.1, by omega, .inr rfl, rfl, fun g => ?_⟩
    · have := h.val g
      dsimp only; rw [tget_lower _ hg.1, hTg]; push_cast
      split <;> omega
    · have := hlow' p hp
      dsimp only; rw [tget_lower _ hg.1]; omega
    · have := h.up g
      dsimp only; rw [tget_lower _ hg.1, hTg]
      split <;> omega
    · dsimp only; rw [tget_lower _ hg.1, hTg]
theorem tget_mdel {m : List (Int × Int)} (hu : Uniq m) (f g : Int) : tget (mdel m f) g = if g = f then 0 else tget m g := by
  unfold tget
  rw [mdel_filtK f hu]
  induction m with
  | nil => simp [mget]
  | cons x m ih =>
    unfold Uniq at hu
    rw [List.map_cons, List.nodup_cons] at hu
    have ih := ih hu.2
    obtain ⟨k, v⟩ := x
    by_cases hk : k = f
    · subst hk
      rw [List.filter_cons_of_neg (by simp), ih]
      by_cases hg : g = k
      · rw [if_pos hg, if_pos hg]
      · rw [if_neg hg, if_neg hg]
        show _ = (if g = k then some v else mget m g).getD 0
        rw [if_neg hg]
    · rw [List.filter_cons_of_pos (by simpa using hk)]
      show (if g = k then some v else mget _ g).getD 0 = if g = f then 0 else (if g = k then some v else mget m g).getD 0
      by_cases hg : g = k
      · rw [if_pos hg, if_pos hg, if_neg (by omega)]
      · rw [if_neg hg, if_neg hg, ih]
theorem OInv.forget {i : Nat} {o : Ord} (h : OInv i o) (f : Int) : OInv i ⟨mdel o.el f, mdel o.tg f, o.tm⟩ := by
  have ht := h.tm
  have hm : mdel o.el f = o.el.filter fun x => !(x.1 == f) := mdel_filtK f h.pts.uniq
  refine ⟨?_, h.uniq.mdel f, fun g => ?_, h.tm, fun p hp => ?_, fun g => ?_⟩
  · dsimp only; rw [hm]; exact h.pts.sub List.filter_sublist
  · have := h.val g
    dsimp only; rw [tget_mdel h.uniq]
    split <;> omega
  · dsimp only at hp ⊢
    rw [hm] at hp
    obtain ⟨h1, h2⟩ := List.mem_filter.1 hp
    rw [tget_mdel h.uniq, if_neg (by simpa using h2)]
    exact h.low p h1
  · have := h.up g
    dsimp only; rw [tget_mdel h.uniq]
    split <;> omega

/-! ### Picking heads -/
theorem snd_zip_sub {α β : Type} : ∀ (l : List α) (m : List β), ((l.zip m).map (·.2)).Sublist m
  | [], m => by simp
  | _ :: _, [] => by simp
  | _ :: l, b :: m => by simpa using snd_zip_sub l m
theorem pickH_sub (D : List Tg) (p : Head → Bool) (H : List Head) : (pickH D p H).Sublist (ptsOf D) := by
  unfold pickH
  exact (List.filter_sublist.map _).trans (snd_zip_sub _ _)
theorem ptsOf_f (D : List Tg) : (ptsOf D).map (·.1) = D.map (·.f) := by unfold ptsOf; rw [List.map_map]; rfl

/-- What the scheduler keeps: tags up to i packets, m slots, ledger bound N. -/
structure CqInv (i m N : Nat) (s : Cq) : Prop where
  t : TInv i s.R
  aw : 0 ≤ s.R.aw ∧ s.R.aw + s.R.tm ≤ m * 2952069120
  pts : ptsOf s.D = ptsOf s.R.L
  lg : LgOk N s.D
  sum : sumS s.D = 0
  c : OInv i s.C
  x : OInv i s.X
  nu : Uniq s.n
  nv : ∀ y ∈ s.n, 0 ≤ y.2.1 ∧ y.2.1 ≤ m * 4096 ∧ 0 ≤ y.2.2 ∧ y.2.2 ≤ m * 4096

section
variable {i m N : Nat} {s : Cq}
theorem CqInv.fl (h : CqInv i m N s) : s.D.map (·.f) = s.R.L.map (·.f) := by
  rw [← ptsOf_f, ← ptsOf_f, h.pts]
theorem CqInv.len (h : CqInv i m N s) : s.D.length = s.R.L.length := by
  have := congrArg List.length h.fl
  simpa using this
theorem CqInv.dpt (h : CqInv i m N s) : PtOk (ptsOf s.D) := ptsOf_ok h.lg.ok
theorem CqInv.cnt (h : CqInv i m N s) (f : Int) : 0 ≤ (cntO s.n f).1 ∧ (cntO s.n f).1 ≤ m * 4096 ∧ 0 ≤ (cntO s.n f).2 ∧ (cntO s.n f).2 ≤ m * 4096 := by
  unfold cntO
  cases hm : mget s.n f with
  | none => show 0 ≤ (0 : Int) ∧ (0 : Int) ≤ _ ∧ 0 ≤ (0 : Int) ∧ (0 : Int) ≤ _; omega
  | some v => exact h.nv _ (mem_of_mget hm)
theorem fget_of_f {L : List Tg} {k : Int} (h : k ∈ L.map (·.f)) : ∃ t, fget L k = some t := by
  cases hf : fget L k with
  | some t => exact ⟨t, rfl⟩
  | none =>
    obtain ⟨t, ht, he⟩ := List.mem_map.1 h
    exact absurd he (fget_none.1 hf t ht)
def cq0 : Cq := ⟨⟨[], fun _ => 0, 0, 0⟩, [], ⟨[], [], 0⟩, ⟨[], [], 0⟩, []⟩
theorem CqInv.start : CqInv 0 0 0 cq0 :=
  ⟨TInv.start, by simp [cq0], rfl, LgOk.start, rfl, OInv.start, OInv.start, by simp [Uniq, cq0], by simp [cq0]⟩
/-- More slots, greater bounds. -/
theorem CqInv.le {j k M : Nat} (h : CqInv i m N s) (hj : i ≤ j) (hk : m ≤ k) (hM : N ≤ M) : CqInv j k M s := by
  have hij : (i : Int) ≤ j := by omega
  have hmk : (m : Int) ≤ k := by omega
  have h2 := h.aw
  refine ⟨?_, by omega, h.pts, h.lg.le hM, h.sum, h.c.le hj, h.x.le hj, h.nu, fun y hy => by have := h.nv y hy; omega⟩
  have h3 := h.t.tm
  exact ⟨h.t.ok, by omega, h.t.act, h.t.old⟩
/-- The times are small. -/
structure CqLow (s : Cq) : Prop where
  r : s.R.tm ≤ 2952069120
  c : s.C.tm ≤ 2952069120
  x : s.X.tm ≤ 2952069120
theorem CqInv.down (h : CqInv i m N s) (hl : CqLow s) : CqInv 2 m N s :=
  ⟨⟨h.t.ok, by have := hl.r; push_cast; omega, h.t.act, h.t.old⟩, h.aw, h.pts, h.lg, h.sum, h.c.down hl.c, h.x.down hl.x, h.nu, h.nv⟩
end

/-! ### A slot -/
/-- The heads fit: what that says. -/
theorem fits_facts {L : List Tg} {H : List Head} (h : fitsH L H = true) : H.map (·.f) = L.map (·.f) ∧ ∀ x ∈ H, 1 ≤ x.len ∧ x.len ≤ 4096 := by
  unfold fitsH at h
  rw [Bool.and_eq_true, decide_eq_true_eq, List.all_eq_true] at h
  exact ⟨h.1, fun x hx => by simpa using h.2 x hx⟩
theorem headOf_mem {H : List Head} {f : Int} (h : f ∈ H.map (·.f)) : headOf H f ∈ H ∧ (headOf H f).f = f := by
  unfold headOf
  cases hf : H.find? (fun h => h.f == f) with
  | none =>
    obtain ⟨x, hx, he⟩ := List.mem_map.1 h
    have := List.find?_eq_none.1 hf x hx
    simp [he] at this
  | some x => exact ⟨List.mem_of_find?_eq_some hf, by simpa using List.find?_some hf⟩
theorem selT_mem {L : List Tg} (h : L ≠ []) : selT L = ((lst L).f, 0) ∧ (lst L).f ∈ L.map (·.f) := by
  unfold selT
  rw [if_neg h]
  exact ⟨rfl, List.mem_map.2 ⟨_, lst_mem h, rfl⟩⟩
/-- Every choice but the idle one charges the selected flow and serves an active one; the ways by the orders serve one that is eligible there. -/
theorem choose_facts {i m N : Nat} {s : Cq} (h : CqInv i m N s) (hne : s.R.L ≠ []) (num den : Int) {H : List Head} (_ : H.map (·.f) = s.R.L.map (·.f)) {C X : Ord} (hC : OInv i C) (hX : OInv i X)
    (hCe : C.el = lagH s.D H) (hXe : X.el = allH s.D H) :
    chooseC num den { s with C := C, X := X } H (!(allH s.D H).isEmpty) = chIdle ∨
    ∃ j why, chooseC num den { s with C := C, X := X } H (!(allH s.D H).isEmpty) = ⟨(lst s.R.L).f, j, why⟩ ∧ j ∈ s.D.map (·.f) ∧ 0 ≤ j ∧
      (why = 1 ∧ j = (lst s.R.L).f ∨ (why = 2 ∨ why = 3) ∧ j = leastF C.el C.tg ∨ why = 4 ∧ j = leastF X.el X.tg) ∧ 0 ≤ (lst s.R.L).f := by
  obtain ⟨hs, hk⟩ := selT_mem hne
  have hk0 : 0 ≤ (lst s.R.L).f := (h.t.ok.ok.rng _ (lst_mem hne)).1
  have hkD : (lst s.R.L).f ∈ s.D.map (·.f) := by rw [h.fl]; exact hk
  have hsub : ∀ (p : Head → Bool) (j : Int), j ∈ (pickH s.D p H).map (·.1) → j ∈ s.D.map (·.f) ∧ 0 ≤ j := fun p j hj => by
    obtain ⟨y, hy, rfl⟩ := List.mem_map.1 hj
    have hy' := (pickH_sub s.D p H).subset hy
    have := h.dpt.rng y hy'
    exact ⟨by rw [← ptsOf_f]; exact List.mem_map.2 ⟨y, hy', rfl⟩, this.1⟩
  unfold chooseC
  dsimp only
  rw [hs]
  dsimp only
  split
  · exact .inr ⟨_, _, rfl, hkD, hk0, .inl ⟨rfl, rfl⟩, hk0⟩
  · split
    · rename_i hl
      have hm := hC.least hl
      have hm' := hm
      rw [hCe] at hm'
      have := hsub _ _ hm'
      rw [← hCe] at this
      refine .inr ⟨_, _, rfl, this.1, hl, .inr (.inl ⟨?_, rfl⟩), hk0⟩
      split
      · exact .inl rfl
      · exact .inr rfl
    · split
      · exact .inr ⟨_, _, rfl, hkD, hk0, .inl ⟨rfl, rfl⟩, hk0⟩
      · split
        · rename_i hso
          have hl : 0 ≤ leastF X.el X.tg := by
            have : ¬ (leastF X.el X.tg < 0) := fun hlt => by
              have := hX.least_nil.1 hlt
              rw [hXe] at this
              rw [this] at hso
              simp at hso
            omega
          rw [if_pos hl]
          have hm := hX.least hl
          have hm' := hm
          rw [hXe] at hm'
          have := hsub _ _ hm'
          rw [← hXe] at this
          exact .inr ⟨_, _, rfl, this.1, hl, .inr (.inr ⟨rfl, rfl⟩), hk0⟩
        · exact .inl rfl
theorem nMove_fw {L : List Tg} (h : NOk L) (c s n : Int) : ptsOf (nMove L c s n).2 = ptsOf L := by
  have hs : ∀ {M : List Tg} {x a : Tg}, NOk M → fget M x.f = some a → x.w = a.w → ptsOf (setT x M) = ptsOf M := fun {M x a} hM hf hw => by
    unfold ptsOf setT
    rw [List.map_map]
    refine List.map_congr_left fun t ht => ?_
    show ((if t.f = x.f then x else t).f, (if t.f = x.f then x else t).w) = (t.f, t.w)
    split
    · rename_i e
      have := fget_memN hM ht
      rw [e, hf] at this
      cases this
      rw [hw, e]
    · rfl
  unfold nMove
  cases hc : fget L c with
  | none => rfl
  | some a =>
    cases hd : fget L s with
    | none => rfl
    | some d =>
      dsimp only
      obtain ⟨ma, rfl⟩ := fget_some hc
      obtain ⟨md, rfl⟩ := fget_some hd
      split
      · rfl
      · split
        · rfl
        · split
          · rfl
          · rename_i hne _
            dsimp only
            have hr := h.rng a ma
            have h1 : NOk (setT ⟨a.f, a.w, a.s + n⟩ L) := h.set (x := ⟨a.f, a.w, a.s + n⟩) ⟨hr.1, hr.2.1, hr.2.2.1, hr.2.2.2⟩
            have h2 : fget (setT ⟨a.f, a.w, a.s + n⟩ L) d.f = some d := by
              rw [← fget_memN h1 (mem_setT_of md (x := ⟨a.f, a.w, a.s + n⟩) (Ne.symm hne))]
            rw [hs (x := ⟨d.f, d.w, d.s - n⟩) h1 h2 rfl, hs (x := ⟨a.f, a.w, a.s + n⟩) h hc rfl]
theorem nMove_zero {N : Nat} {L : List Tg} (h : LgOk N L) (hN : N ≤ 1000000) {c s n : Int} (hc : c ∈ L.map (·.f)) (hs : s ∈ L.map (·.f)) (h1 : 1 ≤ n) (h2 : n ≤ 4096) : (nMove L c s n).1 = 0 := by
  obtain ⟨a, ha⟩ := fget_of_f hc
  obtain ⟨d, hd⟩ := fget_of_f hs
  have b1 := h.lag (fget_some ha).1
  have b2 := h.lag (fget_some hd).1
  have hn : (N : Int) ≤ 1000000 := by omega
  rw [nMove_some ha hd, if_neg (by omega)]
  split
  · rfl
  · rw [if_neg (by omega)]

def nextC (num den reb : Int) (s : Cq) (C X : Ord) (c : Chc) (len : Int) : Cq :=
  ⟨(chargeR reb s.R c.ch len).2, (nMove s.D c.ch c.sv len).2, (servC reb C X c len).2.1, (servC reb C X c len).2.2, resetC (nMove s.D c.ch c.sv len).2 (if countC num den s c = true then bumpC s.n c len else s.n)⟩
theorem Uniq.filt {α : Type} {m : List (Int × α)} (h : Uniq m) (p : Int × α → Bool) : Uniq (m.filter p) := by
  unfold Uniq at *
  exact h.sublist (List.filter_sublist.map _)

/-- What a slot with heads that fit does. -/
theorem CqInv.step {i m N : Nat} {s : Cq} (h : CqInv i m N s) (hi : i ≤ 299) (hN : N ≤ 1000000) (num den reb : Int) {H : List Head} (hf : fitsH s.R.L H = true) (hne : H ≠ []) {C X : Ord} {c : Chc}
    (hC : eligO s.C (lagH s.D H) = C) (hX : eligO s.X (allH s.D H) = X) (hc : chooseC num den { s with C := C, X := X } H (!(allH s.D H).isEmpty) = c) :
    OInv i C ∧ OInv i X ∧ C.el = lagH s.D H ∧ X.el = allH s.D H ∧
    (c = chIdle ∧ stepC num den reb s H = (chIdle, 0, { s with C := C, X := X }) ∧ CqInv i m N { s with C := C, X := X } ∨
      ∃ j why len, c = ⟨(lst s.R.L).f, j, why⟩ ∧ 0 ≤ j ∧ (headOf H j).len = len ∧ (∃ x ∈ H, x.f = j) ∧ 1 ≤ len ∧ len ≤ 4096 ∧ (why = 1 ∧ j = (lst s.R.L).f ∨ (why = 2 ∨ why = 3) ∧ j = leastF C.el C.tg ∨ why = 4 ∧ j = leastF X.el X.tg) ∧ stepC num den reb s H = (c, 0, nextC num den reb s C X c len) ∧
        (chargeR reb s.R (lst s.R.L).f len).1 = 0 ∧ (servC reb C X c len).1 = 0 ∧ (nMove s.D (lst s.R.L).f j len).1 = 0 ∧ CqInv (i + 1) (m + 1) (N + 1) (nextC num den reb s C X c len) ∧ (reb ≤ 2952069120 → CqLow s → CqLow (nextC num den reb s C X c len))) := by
  obtain ⟨f1, f2⟩ := fits_facts hf
  have hL : s.R.L ≠ [] := fun e => by rw [e] at f1; simp at f1; exact hne f1
  have hl : ∀ p, PtOk (pickH s.D p H) := fun p => h.dpt.sub (pickH_sub _ _ _)
  have oC : OInv i C := hC ▸ h.c.elig (hl _)
  have oX : OInv i X := hX ▸ h.x.elig (hl _)
  have eC : C.el = lagH s.D H := hC ▸ h.c.elig_el (hl _)
  have eX : X.el = allH s.D H := hX ▸ h.x.elig_el (hl _)
  refine ⟨oC, oX, eC, eX, ?_⟩
  have hch := choose_facts h hL num den f1 oC oX eC eX
  rw [hc] at hch
  have hst : stepC num den reb s H = if c = chIdle then (c, 0, { s with C := C, X := X }) else
      if (chargeR reb s.R c.ch (headOf H c.sv).len).1 ≠ 0 then (ch0, (chargeR reb s.R c.ch (headOf H c.sv).len).1, s) else
      if (servC reb C X c (headOf H c.sv).len).1 ≠ 0 then (ch0, (servC reb C X c (headOf H c.sv).len).1, s) else
      if (nMove s.D c.ch c.sv (headOf H c.sv).len).1 ≠ 0 then (ch0, (nMove s.D c.ch c.sv (headOf H c.sv).len).1, s) else (c, 0, nextC num den reb s C X c (headOf H c.sv).len) := by
    unfold stepC
    rw [if_neg (by rw [hf]; simp), if_neg hne]
    dsimp only
    rw [hC, hX, hc]
    rfl
  rcases hch with he | ⟨j, why, he, hj, hj0, hw, hk0⟩
  · left
    rw [he, if_pos rfl] at hst
    exact ⟨he, hst, ⟨h.t, h.aw, h.pts, h.lg, h.sum, oC, oX, h.nu, h.nv⟩⟩
  · right
    have hjH : j ∈ H.map (·.f) := by rw [f1, ← h.fl]; exact hj
    obtain ⟨m1, m2⟩ := headOf_mem hjH
    have hlen := f2 _ m1
    refine ⟨j, why, (headOf H j).len, he, hj0, rfl, ⟨_, m1, m2⟩, hlen.1, hlen.2, hw, ?_⟩
    obtain ⟨len, hle⟩ : ∃ len, (headOf H j).len = len := ⟨_, rfl⟩
    rw [hle] at hlen ⊢
    have hkD : (lst s.R.L).f ∈ s.D.map (·.f) := by rw [h.fl]; exact List.mem_map.2 ⟨_, lst_mem hL, rfl⟩
    obtain ⟨q1, q2⟩ := h.t.charge (by omega) hL hlen.1 hlen.2 reb
    have q0 : (chargeR reb s.R (lst s.R.L).f len).1 = 0 := by rw [q1]
    have qn := nMove_zero h.lg hN hkD hj hlen.1 hlen.2
    have qs : (servC reb C X c len).1 = 0 ∧ OInv (i + 1) (servC reb C X c len).2.1 ∧ OInv (i + 1) (servC reb C X c len).2.2 ∧
        (reb ≤ 2952069120 → C.tm ≤ 2952069120 → X.tm ≤ 2952069120 → (servC reb C X c len).2.1.tm ≤ 2952069120 ∧ (servC reb C X c len).2.2.tm ≤ 2952069120) := by
      rw [he]
      unfold servC
      dsimp only
      rcases hw with ⟨hw, _⟩ | ⟨hw, hm⟩ | ⟨hw, hm⟩
      · rw [if_neg (by omega), if_neg (by omega)]
        exact ⟨rfl, oC.le (Nat.le_succ i), oX.le (Nat.le_succ i), fun _ h1 h2 => ⟨h1, h2⟩⟩
      · rw [if_pos hw]
        obtain ⟨wt, _, _, _, e0, e1, _, _, _, by_, b0, b1, b2, e2, _⟩ := oC.serv (by omega) reb hm hj0 hlen.1 hlen.2
        exact ⟨e0, e1, oX.le (Nat.le_succ i), fun h1 h2 h3 => ⟨by rw [e2]; omega, h3⟩⟩
      · rw [if_neg (by omega), if_pos hw]
        obtain ⟨wt, _, _, _, e0, e1, _, _, _, by_, b0, b1, b2, e2, _⟩ := oX.serv (by omega) reb hm hj0 hlen.1 hlen.2
        exact ⟨e0, oC.le (Nat.le_succ i), e1, fun h1 h2 h3 => ⟨h2, by rw [e2]; omega⟩⟩
    have hcne : c ≠ chIdle := by
      rw [he]
      intro e
      have := congrArg Chc.sv e
      change j = -1 at this
      omega
    have hsv : c.sv = j := by rw [he]
    have hcc : c.ch = (lst s.R.L).f := by rw [he]
    refine ⟨?_, q0, qs.1, qn, ?_, ?_⟩
    · have hlen' : (headOf H c.sv).len = len := by rw [hsv]; exact hle
      rw [hst, if_neg hcne, hlen', hcc, hsv, if_neg (by rw [q0]; simp), if_neg (by rw [qs.1]; simp), if_neg (by rw [qn]; simp)]
    · unfold nextC
      rw [hcc, hsv]
      have hnv : ∀ y ∈ s.n, 0 ≤ y.2.1 ∧ y.2.1 ≤ ((m + 1 : Nat) : Int) * 4096 ∧ 0 ≤ y.2.2 ∧ y.2.2 ≤ ((m + 1 : Nat) : Int) * 4096 := fun y hy => by
        have := h.nv y hy; push_cast; omega
      refine ⟨by rw [q1]; exact q2, ?_, ?_, (nMove_ok h.lg _ _ _).1, (nMove_ok h.lg _ _ _).2.trans h.sum, qs.2.1, qs.2.2.1, ?_, ?_⟩
      · rw [q1]
        obtain ⟨_, hT, hmx⟩ := h.t.ch (by omega) hL hlen.1 hlen.2
        have haw := h.aw
        have hr := h.t.ok.ok.rng _ (lst_mem hL)
        have hact := h.t.act _ (lst_mem hL)
        have hbr := byS_rng hT.ok (setT_ne hL)
        unfold rebS
        split
        · show 0 ≤ s.R.aw ∧ s.R.aw + max s.R.tm (lst s.R.L).s ≤ _
          push_cast; omega
        · show 0 ≤ s.R.aw + byS _ ∧ s.R.aw + byS _ + (max s.R.tm (lst s.R.L).s - byS _) ≤ _
          push_cast; omega
      · dsimp only
        rw [nMove_fw h.lg.ok, h.pts, q1]
        dsimp only
        have e1 : ptsOf (chS s.R (lst s.R.L) ((lst s.R.L).s + cst len (lst s.R.L).w)).L = ptsOf s.R.L := by
          unfold chS setT ptsOf
          dsimp only
          rw [List.map_map]
          refine List.map_congr_left fun t ht => ?_
          show ((if t.f = (lst s.R.L).f then (⟨(lst s.R.L).f, (lst s.R.L).w, (lst s.R.L).s + cst len (lst s.R.L).w⟩ : Tg) else t).f, (if t.f = (lst s.R.L).f then (⟨(lst s.R.L).f, (lst s.R.L).w, (lst s.R.L).s + cst len (lst s.R.L).w⟩ : Tg) else t).w) = (t.f, t.w)
          split
          · rename_i e
            rw [h.t.ok.ok.inj ht (lst_mem hL) e]
          · rfl
        rw [← e1]
        unfold rebS
        split
        · rfl
        · unfold subS ptsOf
          dsimp only
          rw [List.map_map]; rfl
      · dsimp only
        unfold resetC
        split
        · exact (h.nu.mput _ _).filt _
        · exact h.nu.filt _
      · dsimp only
        unfold resetC
        intro y hy
        have hy := (List.mem_filter.1 hy).1
        split at hy
        · unfold bumpC at hy
          rcases mput_mem hy with hy | rfl
          · exact hnv y hy
          · have := h.cnt c.ch
            dsimp only
            push_cast
            split <;> omega
        · exact hnv y hy
    · intro hr hl
      have e3 : C.tm = s.C.tm := by rw [← hC]; rfl
      have e4 : X.tm = s.X.tm := by rw [← hX]; rfl
      have := qs.2.2.2 hr (by rw [e3]; exact hl.c) (by rw [e4]; exact hl.x)
      unfold nextC
      refine ⟨?_, this.1, this.2⟩
      dsimp only
      rw [hcc, q1]
      dsimp only
      obtain ⟨_, hT, hmx⟩ := h.t.ch (by omega) hL hlen.1 hlen.2
      have hby := hT.by_ (setT_ne hL)
      unfold rebS
      rw [hby]
      split
      · omega
      · unfold subS; dsimp only; omega
end Go.Proofs.Ytkmlkpfabkhleaa

/- A slot of cifq, walked: heads that do not fit, no heads. -/
namespace Go.Proofs.Ytkmlkpfabkhleaa
open Go.RowKit
open SP
section
variable {w w' : World} {R : List SP} {b rp lp cp xp nb N : Nat} {num den reb : Int} {S : St} {Sp : SP}

theorem qcalm_set {x : Addr} {v : Value} (h : Calm w w') : Calm w (w'.setCell x v) := ⟨h.os, h.tape, h.output⟩
theorem qcalm_alloc {x : Obj} (h : Calm w w') : Calm w (w'.alloc x) := ⟨h.os, h.tape, h.output⟩
theorem qcalm_drew (h : Calm w w') : Calm w w'.drew := ⟨h.os, h.tape, h.output⟩
/-- A scheduler, all of it. -/
def CqF (b : Nat) (num den reb : Int) (N : Nat) (s : Cq) : SP := ex fun (p : (Nat × Nat × Nat) × (Nat × Nat)) =>
  st [CqC b num den p.1.1 p.1.2.1 p.1.2.2 p.2.1 p.2.2, SfqR p.1.1 reb s.R, LagR p.1.2.1 N s.D, mpI cntV p.2.2 s.n, OrdR p.1.2.2 reb s.C, OrdR p.2.1 reb s.X]
theorem CqF.iff {s : Cq} : Own w (CqF b num den reb N s :: R) ↔ ∃ rp lp cp xp nb, Own w (CqC b num den rp lp cp xp nb :: SfqR rp reb s.R :: LagR lp N s.D :: mpI cntV nb s.n :: OrdR cp reb s.C :: OrdR xp reb s.X :: R) := by
  constructor
  · intro o
    obtain ⟨⟨⟨rp, lp, cp⟩, xp, nb⟩, h⟩ := Own.ex.1 o
    exact ⟨rp, lp, cp, xp, nb, Own.st.1 h⟩
  · rintro ⟨rp, lp, cp, xp, nb, h⟩
    exact Own.ex.2 ⟨((rp, lp, cp), (xp, nb)), Own.st.2 h⟩

theorem chRow2 {fn : Func} (h : fn.results = #[.cell 4 33, .tmp 5]) {tmps : Array Value} {p : Nat} {x y z : Int} {e : Int} (hp : tmps.getD 4 undef = .pointer (some ⟨p, 0, none⟩)) (he : tmps.getD 5 undef = .int .i64 e)
    (o : Own w (cel p 33 [.int .i64 x, .int .i64 y, .int .i64 z] :: R)) : (results fn tmps).run Try.prog w = .ok (.tuple #[chV ⟨x, y, z⟩, .int .i64 e]) w := by
  have c0 := o.cell 0
  have c1 := o.cell 1
  have c2 := o.cell 2
  rw [results_cell_tmp h, hp, he]
  unfold chV
  go_simp

set_option maxHeartbeats 3200000 in
set_option maxRecDepth 100000 in
theorem step_unfit {a : Option Addr} {n c : Nat} {H : List Head} (h1 : HeadsAt Sp a H) (hn : n = H.length) (hl : n ≤ 33) (hf : fitsH S.L H = false) (o : Own w (CqC b num den rp lp cp xp nb :: SfqR rp reb S :: Sp :: R)) :
    Calls Try.prog 12 #[.pointer (some ⟨b, 0, none⟩), .slice a n c] w (Ret (.tuple #[chV ch0, .int .i64 1]) (CqC b num den rp lp cp xp nb :: SfqR rp reb S :: Sp :: R) w) := by
  have oA := (o.alloc (.cells #[.int .i64 0, .int .i64 0, .int .i64 0] 33)).alloc (.cells #[.int .i64 (-1), .int .i64 (-1), .int .i64 6] 33)
  simp only [World.size_alloc] at oA
  have hc := fits_spec (c := c) h1 hn (by omega) (oA.re [2, 3, 4, 0, 1])
  rw [hf] at hc
  clear hf hn
  go_enter Try.func12, Try.ntmps12
  go_wp2_with fail
  refine hc.mono ?_
  rintro e1 w1 ⟨rfl, o1, k1⟩
  clear hc
  have z0 := Own.cell (T := 33) (vs := [.int .i64 0, .int .i64 0, .int .i64 0]) (o1.up 4) 0
  have z1 := Own.cell (T := 33) (vs := [.int .i64 0, .int .i64 0, .int .i64 0]) (o1.up 4) 1
  have z2 := Own.cell (T := 33) (vs := [.int .i64 0, .int .i64 0, .int .i64 0]) (o1.up 4) 2
  have zf := Own.frozen (T := 33) (vs := [.int .i64 0, .int .i64 0, .int .i64 0]) (o1.up 4)
  have zl := Own.celLt (T := 33) (vs := [.int .i64 0, .int .i64 0, .int .i64 0]) (o1.up 4)
  have o5 := Own.setCell (T := 33) (vs := [.int .i64 0, .int .i64 0, .int .i64 0]) (o1.up 4) 0 (.int .i64 0)
  have o6 := Own.setCell (T := 33) (vs := [.int .i64 0, .int .i64 0, .int .i64 0]) o5 1 (.int .i64 0)
  have o7 := Own.setCell (T := 33) (vs := [.int .i64 0, .int .i64 0, .int .i64 0]) o6 2 (.int .i64 0)
  go_wp2
  refine bodyPost_ret (v := .tuple #[chV ⟨0, 0, 0⟩, .int .i64 1]) ?_ rfl ?_
  · exact chRow2 (p := w.heap.size) rfl rfl rfl o7
  · exact ⟨rfl, (o7.drop).re [3] 1, ⟨k1.os, k1.tape, k1.output⟩⟩
set_option maxHeartbeats 3200000 in
set_option maxRecDepth 100000 in
theorem step_empty {a : Option Addr} {c : Nat} (hf : S.L = []) (o : Own w (CqC b num den rp lp cp xp nb :: SfqR rp reb S :: Sp :: R)) :
    Calls Try.prog 12 #[.pointer (some ⟨b, 0, none⟩), .slice a 0 c] w (Ret (.tuple #[chV ch0, .int .i64 5]) (CqC b num den rp lp cp xp nb :: SfqR rp reb S :: Sp :: R) w) := by
  have oA := (o.alloc (.cells #[.int .i64 0, .int .i64 0, .int .i64 0] 33)).alloc (.cells #[.int .i64 (-1), .int .i64 (-1), .int .i64 6] 33)
  simp only [World.size_alloc] at oA
  have hc := fits_spec (a := a) (c := c) (n := 0) (H := []) (fun w R _ i h e => by simp at e) rfl (by omega) (oA.re [2, 3, 4, 0, 1])
  have hfit : fitsH S.L [] = true := by rw [hf]; rfl
  rw [hfit] at hc
  clear hf hfit
  go_enter Try.func12, Try.ntmps12
  go_wp2_with fail
  refine hc.mono ?_
  rintro e1 w1 ⟨rfl, o1, k1⟩
  clear hc
  have z0 := Own.cell (T := 33) (vs := [.int .i64 0, .int .i64 0, .int .i64 0]) (o1.up 4) 0
  have z1 := Own.cell (T := 33) (vs := [.int .i64 0, .int .i64 0, .int .i64 0]) (o1.up 4) 1
  have z2 := Own.cell (T := 33) (vs := [.int .i64 0, .int .i64 0, .int .i64 0]) (o1.up 4) 2
  have zf := Own.frozen (T := 33) (vs := [.int .i64 0, .int .i64 0, .int .i64 0]) (o1.up 4)
  have zl := Own.celLt (T := 33) (vs := [.int .i64 0, .int .i64 0, .int .i64 0]) (o1.up 4)
  have o5 := Own.setCell (T := 33) (vs := [.int .i64 0, .int .i64 0, .int .i64 0]) (o1.up 4) 0 (.int .i64 0)
  have o6 := Own.setCell (T := 33) (vs := [.int .i64 0, .int .i64 0, .int .i64 0]) o5 1 (.int .i64 0)
  have o7 := Own.setCell (T := 33) (vs := [.int .i64 0, .int .i64 0, .int .i64 0]) o6 2 (.int .i64 0)
  go_wp2
  refine bodyPost_ret (v := .tuple #[chV ⟨0, 0, 0⟩, .int .i64 5]) ?_ rfl ?_
  · exact chRow2 (p := w.heap.size) rfl rfl rfl o7
  · exact ⟨rfl, (o7.drop).re [3] 1, ⟨k1.os, k1.tape, k1.output⟩⟩
end
end Go.Proofs.Ytkmlkpfabkhleaa

/- Iwfq in memory: New, Join. -/
namespace Go.Proofs.Ytkmlkpfabkhleaa
open Go.RowKit
open SP
section
variable {w w' : World} {R : List SP} {b rp ab : Nat} {reb : Int} {s : Iw} {m : List (Int × Acc)}

def accI (a : Acc) : Value := .agg #[.int .i64 a.1, .int .i64 a.2.1, .int .i64 a.2.2]
theorem Try.zeroIw (w : World) : (zeroValue 101).run Try.prog w = .ok (.agg #[.int .i64 0, .int .i64 0, .int .i64 0]) w := by kernel_rfl
theorem lookI (o : Own w (mpI accI ab m :: R)) (k : Int) :
    (Instr.lookup 96 (.map (some ab)) (.int .i64 k) false).run Try.prog w = .ok (accI (accO m k)) w := by
  rw [run_lookup_mpI Try.underlying96 Try.underlying3 Try.zeroIw o k false]
  unfold accO
  cases mget m k <;> rfl
/-- The struct of a scheduler. -/
abbrev IwC (b rp ab : Nat) : SP := cel b 98 [.pointer (some ⟨rp, 0, none⟩), .map (some ab)]
/-- A scheduler, all of it. -/
def IwR (b : Nat) (reb : Int) (s : Iw) : SP := ex fun (p : Nat × Nat) => st [IwC b p.1 p.2, SfqR p.1 reb s.R, mpI accI p.2 s.m]
theorem IwR.iff : Own w (IwR b reb s :: R) ↔ ∃ rp ab, Own w (IwC b rp ab :: SfqR rp reb s.R :: mpI accI ab s.m :: R) := by
  constructor
  · intro o
    obtain ⟨⟨rp, ab⟩, h⟩ := Own.ex.1 o
    exact ⟨rp, ab, Own.st.1 h⟩
  · rintro ⟨rp, ab, h⟩
    exact Own.ex.2 ⟨(rp, ab), Own.st.2 h⟩
def iw0 : Iw := ⟨⟨[], fun _ => 0, 0, 0⟩, []⟩

set_option maxHeartbeats 1600000 in
set_option maxRecDepth 100000 in
theorem iwNew_spec (r : Int) (h1 : 1 ≤ r) (h2 : r ≤ 1099511627776) (o : Own w R) :
    Calls Try.prog 17 #[.int .i64 r] w fun e w' => ∃ b, Ret (.tuple #[.pointer (some ⟨b, 0, none⟩), .int .i64 0]) (IwR b r iw0 :: R) w e w' := by
  have hmm := @run_makeMap Try.prog
  go_enter Try.func17, Try.ntmps17
  go_wp2_with fail
  refine (sfqNew_spec r h1 h2 o).mono ?_
  rintro e1 w1 ⟨rp, rfl, o1, k1⟩
  have oX := o1.mpI_made (f := accI) (α := Acc)
  have oY := oX.alloc (.cells #[.pointer (some ⟨rp, 0, none⟩), .map (some w1.heap.size)] 98)
  simp only [World.size_alloc] at oY
  go_wp2
  go_ret2
  exact ⟨w1.heap.size + 1, rfl, IwR.iff.2 ⟨rp, w1.heap.size, oY.re [0, 2, 1]⟩, qcalm_alloc (qcalm_alloc k1)⟩

def bndI (x y : Int) : Bool := decide (0 ≤ x) && decide (x ≤ 1099511627776) && decide (0 ≤ y) && decide (y ≤ 1099511627776)
set_option maxHeartbeats 800000 in
theorem bounded_spec (x y : Int) (w : World) : Calls Try.prog 49 #[.int .i64 x, .int .i64 y] w (IsRet (.bool (bndI x y)) w) := by
  go_enter Try.func49, Try.ntmps49
  go_wp2
  · go_ret
    exact ⟨congrArg (fun z => Ending.returned (.bool z)) (by unfold bndI; simp [*]), rfl⟩
  all_goals go_ret
  all_goals exact ⟨congrArg (fun z => Ending.returned (.bool z)) (by symm; unfold bndI; simp only [Bool.and_eq_false_iff, decide_eq_false_iff_not]; omega), rfl⟩

/-- Join. -/
def joinI (s : Iw) (f wt x y : Int) : Int × Iw :=
  if bndI x y = false then (1, s) else if joinE s.R f wt = 0 then (0, ⟨joinS s.R f wt, mput s.m f (0, x, y)⟩) else (joinE s.R f wt, s)
set_option maxHeartbeats 1600000 in
set_option maxRecDepth 100000 in
theorem iwJoin_spec (f wt x y : Int) (o : Own w (IwR b reb s :: R)) :
    Calls Try.prog 18 #[.pointer (some ⟨b, 0, none⟩), .int .i64 f, .int .i64 wt, .int .i64 x, .int .i64 y] w (Ret (.int .i64 (joinI s f wt x y).1) (IwR b reb (joinI s f wt x y).2 :: R) w) := by
  have hb := bounded_spec x y w
  unfold joinI
  cases hbb : bndI x y with
  | false =>
    rw [hbb] at hb
    rw [if_pos rfl]
    go_enter Try.func18, Try.ntmps18
    go_wp2_with fail
    refine hb.mono ?_
    rintro e1 w1 ⟨rfl, rfl⟩
    go_wp2
    go_ret
    exact ⟨rfl, o, Calm.refl _⟩
  | true =>
    rw [hbb] at hb
    rw [if_neg (by simp)]
    obtain ⟨rp, ab, o1⟩ := IwR.iff.1 o
    have c0 := o1.cell 0
    have cl := o1.celLt
    have hq := sfqJoin_spec f wt (o1.re [1])
    unfold joinR at hq
    clear hbb
    by_cases hj : joinE s.R f wt = 0
    · rw [if_pos hj, hj] at hq
      rw [if_pos hj]
      dsimp only at hq
      clear hj
      go_enter Try.func18, Try.ntmps18
      go_wp2_with fail
      refine hb.mono ?_
      rintro e1 w1 ⟨rfl, rfl⟩
      go_wp2_with fail
      refine hq.mono ?_
      rintro e2 w2 ⟨rfl, o2, k2⟩
      clear hq c0 cl
      have c1 := (o2.up 1).cell 1
      have cl := (o2.up 1).celLt
      obtain ⟨w3, hr3, o3, k3⟩ := run_mapUpdate_mpI (P := Try.prog) (f := accI) Try.underlying96 Try.underlying3 (o2.re [2]) f (0, x, y)
      unfold accI at hr3
      go_wp2
      go_ret
      exact ⟨rfl, IwR.iff.2 ⟨rp, ab, o3.re [2, 1, 0]⟩, k2.trans k3⟩
    · rw [if_neg hj] at hq ⊢
      have hn : (joinE s.R f wt == 0) = false := by simpa using hj
      dsimp only at hq
      generalize joinE s.R f wt = J at *
      clear hj
      go_enter Try.func18, Try.ntmps18
      go_wp2_with fail
      refine hb.mono ?_
      rintro e1 w1 ⟨rfl, rfl⟩
      go_wp2_with fail
      refine hq.mono ?_
      rintro e2 w2 ⟨rfl, o2, k2⟩
      clear hq c0 cl
      go_wp2
      go_ret
      exact ⟨rfl, IwR.iff.2 ⟨rp, ab, o2.re [1, 0]⟩, k2⟩
end
end Go.Proofs.Ytkmlkpfabkhleaa

/- Iwfq: the tags of service; comparisons of tags. -/
namespace Go.Proofs.Ytkmlkpfabkhleaa
open Go.RowKit
open SP
section
variable {w w' : World} {R : List SP} {b rp ab : Nat} {reb : Int} {s : Iw} {m : List (Int × Acc)}

theorem nan64_spec (x : Int) (w : World) : Calls Try.prog 108 #[.int .i64 x] w (fun e w' => e = .returned (.bool false) ∧ w = w') := by
  go_enter Try.func108, Try.ntmps108
  go_wp2
  go_ret
  simp
theorem nan_spec (x : Int) (w : World) : Calls Try.prog 109 #[.int .i64 x] w (fun e w' => e = .returned (.bool false) ∧ w = w') := by
  go_enter Try.func109, Try.ntmps109
  go_wp2
  go_ret
  simp
set_option maxHeartbeats 800000 in
set_option maxRecDepth 100000 in
theorem cmp64_spec (x y : Int) (w : World) : Calls Try.prog 90 #[.int .i64 x, .int .i64 y] w (IsRet (.int .i64 (cmpZ x y)) w) := by
  by_cases h1 : x < y
  · have e : cmpZ x y = -1 := if_pos h1
    rw [e]; clear e
    go_enter Try.func90, Try.ntmps90
    go_wp2_with (go_at_call 108; refine (nan64_spec _ _).mono ?_; rintro e w' ⟨rfl, rfl⟩)
    go_ret
    exact ⟨rfl, rfl⟩
  · by_cases h2 : y < x
    · have e : cmpZ x y = 1 := by unfold cmpZ; rw [if_neg h1, if_pos h2]
      rw [e]; clear e
      go_enter Try.func90, Try.ntmps90
      go_wp2_with (go_at_call 108; refine (nan64_spec _ _).mono ?_; rintro e w' ⟨rfl, rfl⟩)
      go_ret
      exact ⟨rfl, rfl⟩
    · have e : cmpZ x y = 0 := by unfold cmpZ; rw [if_neg h1, if_neg h2]
      rw [e]; clear e
      go_enter Try.func90, Try.ntmps90
      go_wp2_with (go_at_call 108; refine (nan64_spec _ _).mono ?_; rintro e w' ⟨rfl, rfl⟩)
      go_ret
      exact ⟨rfl, rfl⟩
set_option maxHeartbeats 800000 in
set_option maxRecDepth 100000 in
theorem cmp_spec (x y : Int) (w : World) : Calls Try.prog 91 #[.int .i64 x, .int .i64 y] w (IsRet (.int .i64 (cmpZ x y)) w) := by
  by_cases h1 : x < y
  · have e : cmpZ x y = -1 := if_pos h1
    rw [e]; clear e
    go_enter Try.func91, Try.ntmps91
    go_wp2_with (go_at_call 109; refine (nan_spec _ _).mono ?_; rintro e w' ⟨rfl, rfl⟩)
    go_ret
    exact ⟨rfl, rfl⟩
  · by_cases h2 : y < x
    · have e : cmpZ x y = 1 := by unfold cmpZ; rw [if_neg h1, if_pos h2]
      rw [e]; clear e
      go_enter Try.func91, Try.ntmps91
      go_wp2_with (go_at_call 109; refine (nan_spec _ _).mono ?_; rintro e w' ⟨rfl, rfl⟩)
      go_ret
      exact ⟨rfl, rfl⟩
    · have e : cmpZ x y = 0 := by unfold cmpZ; rw [if_neg h1, if_neg h2]
      rw [e]; clear e
      go_enter Try.func91, Try.ntmps91
      go_wp2_with (go_at_call 109; refine (nan_spec _ _).mono ?_; rintro e w' ⟨rfl, rfl⟩)
      go_ret
      exact ⟨rfl, rfl⟩

set_option maxHeartbeats 800000 in
set_option maxRecDepth 100000 in
/-- tags.Normalized of a lag. -/
theorem norm_spec (x wt : Int) (h1 : -1099511627776 ≤ x) (h2 : x ≤ 1099511627776) (h3 : 1 ≤ wt) (h4 : wt ≤ 16) (w : World) :
    Calls Try.prog 92 #[.int .i64 x, .int .i64 wt] w (IsRet (.tuple #[.int .i64 (x * unit1 wt), .int .i64 0]) w) := by
  have hw := weighty_spec wt w
  rw [show decide (1 ≤ wt ∧ wt ≤ 16) = true from by simp; omega] at hw
  obtain ⟨u1, u2⟩ := unit1_range h3 h4
  have m1 : x * unit1 wt ≤ 1099511627776 * 720720 := by
    by_cases h0 : 0 ≤ x
    · exact Int.mul_le_mul h2 u2 (by omega) (by omega)
    · have := Int.mul_nonneg (show 0 ≤ -x by omega) (show 0 ≤ unit1 wt by omega)
      rw [Int.neg_mul] at this
      omega
  have m2 : -(1099511627776 * 720720) ≤ x * unit1 wt := by
    by_cases h0 : 0 ≤ x
    · have := Int.mul_nonneg h0 (show 0 ≤ unit1 wt by omega); omega
    · have := Int.mul_le_mul (show -x ≤ 1099511627776 by omega) u2 (by omega) (by omega)
      rw [Int.neg_mul] at this
      omega
  have e1 : Int.tdiv 720720 wt = unit1 wt := rfl
  obtain ⟨z, hz⟩ : ∃ z, x * unit1 wt = z := ⟨_, rfl⟩
  rw [hz] at m1 m2 ⊢
  generalize unit1 wt = u at *
  have hz : ¬ wt = 0 := by omega
  have d1 : decide (x < -1099511627776) = false := decide_eq_false (by omega)
  have d2 : decide (1099511627776 < x) = false := decide_eq_false (by omega)
  go_enter Try.func92, Try.ntmps92
  go_wp2_with fail
  refine hw.mono ?_
  rintro e1 w1 ⟨rfl, rfl⟩
  go_wp2
  go_ret2
  exact ⟨rfl, rfl⟩

/-! ### Worlds that only grow -/
def Grw (w w' : World) : Prop := ∃ (q : Nat) (os : Array Obj), w' = Go.Sort.grow (w.drewN q) os
theorem Grw.refl (w : World) : Grw w w := ⟨0, #[], by rw [Go.Sort.grow_empty]; rfl⟩
theorem drewN_two (w : World) (p q : Nat) : (w.drewN p).drewN q = w.drewN (p + q) := by
  unfold World.drewN
  simp [Nat.add_assoc]
theorem Grw.trans {a b c : World} (h : Grw a b) (k : Grw b c) : Grw a c := by
  obtain ⟨p, os, rfl⟩ := h
  obtain ⟨q, os', rfl⟩ := k
  refine ⟨p + q, os ++ os', ?_⟩
  rw [← Go.Sort.grow_grow, ← drewN_two]
  rfl
theorem Grw.alloc {a b : World} (h : Grw a b) (x : Obj) : Grw a (b.alloc x) := h.trans ⟨0, #[x], by rw [Go.Sort.alloc_eq_grow]; rfl⟩
theorem Grw.drew {a b : World} (h : Grw a b) : Grw a b.drew := h.trans ⟨1, #[], by rw [Go.Sort.grow_empty]; rfl⟩
theorem Grw.calm (h : Grw w w') : Calm w w' := by
  obtain ⟨p, os, rfl⟩ := h
  exact ⟨rfl, rfl, rfl⟩
theorem Own.grw {l : List SP} (o : Own w l) (h : Grw w w') : Own w' l := by
  obtain ⟨p, os, rfl⟩ := h
  obtain ⟨σ, hs, hw⟩ := o
  refine ⟨σ, hs, fun k x hk => ?_⟩
  have h1 := hw k x hk
  show (w.heap ++ os)[k]? = some x
  rw [Array.getElem?_append_left (Array.getElem?_eq_some_iff.1 h1).1]
  exact h1
theorem Grw.size (h : Grw w w') : w.heap.size ≤ w'.heap.size := by
  obtain ⟨p, os, rfl⟩ := h
  show w.heap.size ≤ (w.heap ++ os).size
  rw [Array.size_append]; omega
/-- A call that answers v and only adds to memory. -/
def GRet (v : Value) (w : World) (e : Ending) (w' : World) : Prop := e = .returned v ∧ Grw w w'

/-- Lags that are not far. -/
def LagOk (m : List (Int × Acc)) : Prop := ∀ f, -1099511627776 ≤ (accO m f).1 ∧ (accO m f).1 ≤ 1099511627776
theorem svc_rng {x wt st : Int} (h1 : -1099511627776 ≤ x) (h2 : x ≤ 1099511627776) (h3 : 1 ≤ wt) (h4 : wt ≤ 16) (h5 : 0 ≤ st) (h6 : st ≤ 1099511627776) :
    -9223372036854775808 ≤ st - x * unit1 wt ∧ st - x * unit1 wt ≤ 9223372036854775807 := by
  obtain ⟨u1, u2⟩ := unit1_range h3 h4
  have m1 : x * unit1 wt ≤ 1099511627776 * 720720 := by
    by_cases h0 : 0 ≤ x
    · exact Int.mul_le_mul h2 u2 (by omega) (by omega)
    · have := Int.mul_nonneg (show 0 ≤ -x by omega) (show 0 ≤ unit1 wt by omega)
      rw [Int.neg_mul] at this
      omega
  have m2 : -(1099511627776 * 720720) ≤ x * unit1 wt := by
    by_cases h0 : 0 ≤ x
    · have := Int.mul_nonneg h0 (show 0 ≤ unit1 wt by omega); omega
    · have := Int.mul_le_mul (show -x ≤ 1099511627776 by omega) u2 (by omega) (by omega)
      rw [Int.neg_mul] at this
      omega
  omega
theorem Try.fieldI (x y z : Value) (w : World) : (Instr.field 101 (.agg #[x, y, z]) 0).run Try.prog w = .ok x w ∧ (Instr.field 101 (.agg #[x, y, z]) 1).run Try.prog w = .ok y w ∧ (Instr.field 101 (.agg #[x, y, z]) 2).run Try.prog w = .ok z w := ⟨by kernel_rfl, by kernel_rfl, by kernel_rfl⟩
set_option maxHeartbeats 1600000 in
set_option maxRecDepth 100000 in
theorem svc_spec {t : Tg} (hm : LagOk m) (h3 : 1 ≤ t.w) (h4 : t.w ≤ 16) (h5 : 0 ≤ t.s) (h6 : t.s ≤ 1099511627776) (o : Own w (IwC b rp ab :: mpI accI ab m :: R)) :
    Calls Try.prog 55 #[.pointer (some ⟨b, 0, none⟩), tagV t] w (GRet (.int .i64 (svcI m t)) w) := by
  have hrg := svc_rng (hm t.f).1 (hm t.f).2 h3 h4 h5 h6
  have hnm := fun w => norm_spec (accO m t.f).1 t.w (hm t.f).1 (hm t.f).2 h3 h4 w
  have c1 := o.cell 1
  have cl := o.celLt
  have oA := (o.alloc (.cells #[.int .i64 t.f, .int .i64 t.w, .int .i64 t.s] 106)).drew
  have hlk := lookI (oA.up 2) t.f
  unfold tagV svcI
  unfold accI at hlk
  obtain ⟨f, wt, st⟩ := t
  dsimp only at *
  generalize accO m f = A at *
  obtain ⟨x, x1, x2⟩ := A
  dsimp only at *
  generalize x * unit1 wt = z at *
  have hf0 := fun w => (Try.fieldI (.int .i64 x) (.int .i64 x1) (.int .i64 x2) w).1
  go_enter Try.func55, Try.ntmps55
  go_wp2
  refine wp_region_tail 15 (by kernel_rfl) (by kernel_rfl) ?_
  simp only [List.take_succ_cons, List.take_zero, List.drop_succ_cons, List.drop_zero]
  repeat still_step
  still_call (IsRet.still (hnm _))
  repeat still_step
  refine wpStill_nil ?_
  go_wp2
  go_ret
  exact ⟨rfl, ((Grw.refl w).alloc _).drew⟩
set_option maxHeartbeats 800000 in
theorem start2_spec (t : Tg) (w : World) : Calls Try.prog 56 #[tagV t] w (GRet (.int .i64 t.s) w) := by
  unfold tagV
  go_enter Try.func56, Try.ntmps56
  go_wp2
  go_ret
  exact ⟨rfl, (Grw.refl w).alloc _⟩
end
end Go.Proofs.Ytkmlkpfabkhleaa

/- Iwfq: comparisons of tags, by the tag of service and by the start tag. -/
namespace Go.Proofs.Ytkmlkpfabkhleaa
open Go.RowKit
open SP
section
variable {w w' : World} {R : List SP} {b rp ab kb : Nat} {m : List (Int × Acc)}

structure TgR (t : Tg) : Prop where
  w1 : 1 ≤ t.w
  w2 : t.w ≤ 16
  s1 : 0 ≤ t.s
  s2 : t.s ≤ 1099511627776
abbrev svcF (b : Nat) : Value := .func (.func 55) #[.pointer (some ⟨b, 0, none⟩)] #[]
abbrev staF : Value := .func (.func 56) #[] #[]
abbrev boxK (kb : Nat) (kv : Value) : SP := cel kb 110 [kv]
theorem tagCells {g : Nat} {t : Tg} (o : Own w (cel g 106 (tagC t) :: R)) : w.cell? ⟨g, 0, none⟩ = some (.int .i64 t.f) ∧ w.cell? ⟨g, 1, none⟩ = some (.int .i64 t.w) ∧ w.cell? ⟨g, 2, none⟩ = some (.int .i64 t.s) := ⟨o.cell 0, o.cell 1, o.cell 2⟩

set_option maxHeartbeats 3200000 in
set_option maxRecDepth 100000 in
theorem cmpSvc_spec {x y : Tg} (hm : LagOk m) (hx : TgR x) (hy : TgR y) (o : Own w (boxK kb (svcF b) :: IwC b rp ab :: mpI accI ab m :: R)) :
    Calls Try.prog 88 #[tagV x, tagV y, .pointer (some ⟨kb, 0, none⟩)] w (GRet (.int .i64 (orZ (cmpZ (svcI m x) (svcI m y)) (cmpZ x.f y.f))) w) := by
  have oA : Own ((w.alloc (.cells (tagC x).toArray 106)).alloc (.cells (tagC y).toArray 106)) (cel (w.heap.size + 1) 106 (tagC y) :: cel w.heap.size 106 (tagC x) :: boxK kb (svcF b) :: IwC b rp ab :: mpI accI ab m :: R) := by
    have := (o.alloc (.cells (tagC x).toArray 106)).alloc (.cells (tagC y).toArray 106)
    simp only [World.size_alloc] at this
    exact this
  have oD := oA.drew
  obtain ⟨y0, y1, y2⟩ := tagCells oA
  obtain ⟨x0, x1, x2⟩ := tagCells (oA.up 1)
  have k0 := o.cell 0
  have kl := o.celLt
  have hcx := svc_spec hm hx.w1 hx.w2 hx.s1 hx.s2 (oD.re [3, 4])
  have hcy := fun (w2 : World) (o : Own w2 (cel (w.heap.size + 1) 106 (tagC y) :: cel w.heap.size 106 (tagC x) :: boxK kb (svcF b) :: IwC b rp ab :: mpI accI ab m :: R)) => svc_spec hm hy.w1 hy.w2 hy.s1 hy.s2 (o.re [3, 4])
  generalize svcI m x = X at *
  generalize svcI m y = Y at *
  obtain ⟨f, wt, st⟩ := x
  obtain ⟨f2, wt2, st2⟩ := y
  unfold tagV at *
  unfold tagC at hcx
  dsimp only at *
  go_enter Try.func88, Try.ntmps88
  go_wp2
  go_region_held3 (fun w' => (w'.cell? ⟨kb, 0, none⟩ = some (svcF b) ∧ w'.cell? ⟨w.heap.size, 0, none⟩ = some (.int .i64 f) ∧ w'.cell? ⟨w.heap.size, 1, none⟩ = some (.int .i64 wt) ∧ w'.cell? ⟨w.heap.size, 2, none⟩ = some (.int .i64 st)) ∧ w'.cell? ⟨w.heap.size + 1, 0, none⟩ = some (.int .i64 f2) ∧ w'.cell? ⟨w.heap.size + 1, 1, none⟩ = some (.int .i64 wt2) ∧ w'.cell? ⟨w.heap.size + 1, 2, none⟩ = some (.int .i64 st2)) (go_keep) (first
    | (go_at_call 55; (with_reducible refine hcx.mono ?_); rintro e1 w2 ⟨rfl, g1⟩; have o2 := oD.grw g1; obtain ⟨p0, p1, p2⟩ := tagCells o2; obtain ⟨q0, q1, q2⟩ := tagCells (o2.up 1); have r0 := (o2.up 2).cell 0; have hcy2 := hcy _ o2)
    | (go_at_call 55; (with_reducible refine hcy2.mono ?_); rintro e1 w3 ⟨rfl, g2⟩; have o3 := o2.grw g2; obtain ⟨u0, u1, u2⟩ := tagCells o3; obtain ⟨v0, v1, v2⟩ := tagCells (o3.up 1); have z0 := (o3.up 2).cell 0)
    | (go_at_call 90; (with_reducible refine (cmp64_spec _ _ _).mono ?_); rintro e1 w4 ⟨rfl, rfl⟩)
    | (go_at_call 91; (with_reducible refine (cmp_spec _ _ _).mono ?_); rintro e1 w5 ⟨rfl, rfl⟩)
    | (go_at_call 89; (refine (or_spec w3.heap.size (cmpZ X Y) (cmpZ f f2) _ ?_ ?_).mono ?_); (go_simp); (go_simp); rintro e1 w6 ⟨rfl, rfl⟩))
  go_wp2
  go_ret
  exact ⟨rfl, (((((Grw.refl w).alloc _).alloc _).drew.trans g1).trans g2).alloc _⟩
set_option maxHeartbeats 3200000 in
set_option maxRecDepth 100000 in
theorem cmpSta_spec {x y : Tg} (o : Own w (boxK kb staF :: R)) :
    Calls Try.prog 88 #[tagV x, tagV y, .pointer (some ⟨kb, 0, none⟩)] w (GRet (.int .i64 (orZ (cmpZ (x.s) (y.s)) (cmpZ x.f y.f))) w) := by
  have oA : Own ((w.alloc (.cells (tagC x).toArray 106)).alloc (.cells (tagC y).toArray 106)) (cel (w.heap.size + 1) 106 (tagC y) :: cel w.heap.size 106 (tagC x) :: boxK kb staF :: R) := by
    have := (o.alloc (.cells (tagC x).toArray 106)).alloc (.cells (tagC y).toArray 106)
    simp only [World.size_alloc] at this
    exact this
  have oD := oA.drew
  obtain ⟨y0, y1, y2⟩ := tagCells oA
  obtain ⟨x0, x1, x2⟩ := tagCells (oA.up 1)
  have k0 := o.cell 0
  have kl := o.celLt
  have hcx := start2_spec x
  have hcy := start2_spec y
  obtain ⟨f, wt, st⟩ := x
  obtain ⟨f2, wt2, st2⟩ := y
  unfold tagV at *
  skip
  dsimp only at *
  go_enter Try.func88, Try.ntmps88
  go_wp2
  go_region_held3 (fun w' => (w'.cell? ⟨kb, 0, none⟩ = some (staF) ∧ w'.cell? ⟨w.heap.size, 0, none⟩ = some (.int .i64 f) ∧ w'.cell? ⟨w.heap.size, 1, none⟩ = some (.int .i64 wt) ∧ w'.cell? ⟨w.heap.size, 2, none⟩ = some (.int .i64 st)) ∧ w'.cell? ⟨w.heap.size + 1, 0, none⟩ = some (.int .i64 f2) ∧ w'.cell? ⟨w.heap.size + 1, 1, none⟩ = some (.int .i64 wt2) ∧ w'.cell? ⟨w.heap.size + 1, 2, none⟩ = some (.int .i64 st2)) (go_keep) (first
    | (go_at_call 56; (with_reducible refine (hcx _).mono ?_); rintro e1 w2 ⟨rfl, g1⟩; have o2 := oD.grw g1; obtain ⟨p0, p1, p2⟩ := tagCells o2; obtain ⟨q0, q1, q2⟩ := tagCells (o2.up 1); have r0 := (o2.up 2).cell 0; have hcy2 := hcy w2)
    | (go_at_call 56; (with_reducible refine hcy2.mono ?_); rintro e1 w3 ⟨rfl, g2⟩; have o3 := o2.grw g2; obtain ⟨u0, u1, u2⟩ := tagCells o3; obtain ⟨v0, v1, v2⟩ := tagCells (o3.up 1); have z0 := (o3.up 2).cell 0)
    | (go_at_call 90; (with_reducible refine (cmp64_spec _ _ _).mono ?_); rintro e1 w4 ⟨rfl, rfl⟩)
    | (go_at_call 91; (with_reducible refine (cmp_spec _ _ _).mono ?_); rintro e1 w5 ⟨rfl, rfl⟩)
    | (go_at_call 89; (refine (or_spec w3.heap.size (cmpZ st st2) (cmpZ f f2) _ ?_ ?_).mono ?_); (go_simp); (go_simp); rintro e1 w6 ⟨rfl, rfl⟩))
  go_wp2
  go_ret
  exact ⟨rfl, (((((Grw.refl w).alloc _).alloc _).drew.trans g1).trans g2).alloc _⟩
end
end Go.Proofs.Ytkmlkpfabkhleaa

/- Contracts of the library, at the numbers of this translation: laid by program. -/
namespace Go.Proofs.Ytkmlkpfabkhleaa
open Go.Shelf
def Try.sortT_ren : Go.Shelf.Ren := ⟨fun | 6 => 87 | 15 => 107 | 14 => 106 | 28 => 128 | 29 => 129 | 20 => 120 | 21 => 121 | 22 => 122 | 23 => 123 | 24 => 124 | 25 => 125 | 26 => 126 | 27 => 127 | 46 => 141 | 47 => 142 | 48 => 143 | 49 => 144 | 50 => 145 | 57 => 149 | n => n, fun | 22 => 102 | 24 => 106 | 25 => 158 | 3 => 3 | 39 => 172 | 0 => 0 | 53 => 189 | 55 => 140 | 4 => 4 | 46 => 183 | 45 => 182 | 50 => 111 | 5 => 5 | 9 => 9 | 66 => 198 | 70 => 202 | 76 => 206 | 77 => 207 | n => n, fun | n => n⟩
theorem Try.sortT : Go.Proofs.SlLaysF0.n6 Try.prog Try.sortT_ren := {
  mixed := by kernel_rfl
  f6 := ⟨Try.f87.name, by decide, Try.func87.trans (congrArg some (by kernel_rfl))⟩
  f14 := ⟨Try.f106.name, by decide, Try.func106.trans (congrArg some (by kernel_rfl))⟩
  f15 := Try.func107.trans (congrArg some (by kernel_rfl))
  f20 := ⟨Try.f120.name, by decide, Try.func120.trans (congrArg some (by kernel_rfl))⟩
  f21 := ⟨Try.f121.name, by decide, Try.func121.trans (congrArg some (by kernel_rfl))⟩
  f22 := ⟨Try.f122.name, by decide, Try.func122.trans (congrArg some (by kernel_rfl))⟩
  f23 := ⟨Try.f123.name, by decide, Try.func123.trans (congrArg some (by kernel_rfl))⟩
  f24 := ⟨Try.f124.name, by decide, Try.func124.trans (congrArg some (by kernel_rfl))⟩
  f25 := ⟨Try.f125.name, by decide, Try.func125.trans (congrArg some (by kernel_rfl))⟩
  f26 := ⟨Try.f126.name, by decide, Try.func126.trans (congrArg some (by kernel_rfl))⟩
  f27 := ⟨Try.f127.name, by decide, Try.func127.trans (congrArg some (by kernel_rfl))⟩
  f28 := Try.func128.trans (congrArg some (by kernel_rfl))
  f29 := Try.func129.trans (congrArg some (by kernel_rfl))
  f46 := ⟨Try.f141.name, by decide, Try.func141.trans (congrArg some (by kernel_rfl))⟩
  f47 := Try.func142.trans (congrArg some (by kernel_rfl))
  f48 := Try.func143.trans (congrArg some (by kernel_rfl))
  f49 := ⟨Try.f144.name, by decide, Try.func144.trans (congrArg some (by kernel_rfl))⟩
  f50 := ⟨Try.f145.name, by decide, Try.func145.trans (congrArg some (by kernel_rfl))⟩
  f57 := ⟨Try.f149.name, by decide, Try.func149.trans (congrArg some (by kernel_rfl))⟩
  t0 := Try.underlying0
  a0 := Try.isAgg0
  z0 := Try.sizeOf0
  v0 := Try.zeroValue0
  t3 := Try.underlying3
  a3 := Try.isAgg3
  z3 := Try.sizeOf3
  v3 := Try.zeroValue3
  t4 := Try.underlying4
  a4 := Try.isAgg4
  z4 := Try.sizeOf4
  v4 := Try.zeroValue4
  t5 := Try.underlying5
  a5 := Try.isAgg5
  z5 := Try.sizeOf5
  v5 := Try.zeroValue5
  t9 := Try.underlying9
  a9 := Try.isAgg9
  z9 := Try.sizeOf9
  v9 := Try.zeroValue9
  t22 := Try.underlying102
  a22 := Try.isAgg102
  z22 := Try.sizeOf102
  v22 := Try.zeroValue102
  t25 := Try.underlying158
  a25 := Try.isAgg158
  z25 := Try.sizeOf158
  v25 := Try.zeroValue158
  t39 := Try.underlying172
  a39 := Try.isAgg172
  z39 := Try.sizeOf172
  v39 := Try.zeroValue172
  t45 := Try.underlying182
  a45 := Try.isAgg182
  z45 := Try.sizeOf182
  v45 := Try.zeroValue182
  t46 := Try.underlying183
  a46 := Try.isAgg183
  z46 := Try.sizeOf183
  v46 := Try.zeroValue183
  t50 := Try.underlying111
  a50 := Try.isAgg111
  z50 := Try.sizeOf111
  v50 := Try.zeroValue111
  t53 := Try.underlying189
  a53 := Try.isAgg189
  z53 := Try.sizeOf189
  v53 := Try.zeroValue189
  t55 := Try.underlying140
  a55 := Try.isAgg140
  z55 := Try.sizeOf140
  v55 := Try.zeroValue140
  t66 := Try.underlying198
  a66 := Try.isAgg198
  z66 := Try.sizeOf198
  v66 := Try.zeroValue198
  t70 := Try.underlying202
  a70 := Try.isAgg202
  z70 := Try.sizeOf202
  v70 := Try.zeroValue202
  t76 := Try.underlying206
  a76 := Try.isAgg206
  z76 := Try.sizeOf206
  v76 := Try.zeroValue206
  t77 := Try.underlying207
  a77 := Try.isAgg207
  z77 := Try.sizeOf207
  v77 := Try.zeroValue207 }
end Go.Proofs.Ytkmlkpfabkhleaa
