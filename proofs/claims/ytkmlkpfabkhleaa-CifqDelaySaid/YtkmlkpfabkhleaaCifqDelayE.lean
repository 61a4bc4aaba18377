/- Texts that the law rests on, put together by a program. -/
import Derived.Test.YtkmlkpfabkhleaaCifqDelayD
import Derived.Test.YtkmlkpfabkhleaaCifqDelayB
import Derived.Test.YtkmlkpfabkhleaaCifqDelayC
/- Cifq: New, Join. -/
namespace Go.Proofs.Ytkmlkpfabkhleaa
open Go.RowKit
open SP
section
variable {w w' : World} {R : List SP} {b rp lp cp xp nb N : Nat} {num den reb : Int} {s : Cq} {Sp : SP}

structure AlOk (nu de : Nat) : Prop where
  pos : 0 < nu
  lt : nu < de
  le : de ≤ 1048576

set_option maxHeartbeats 800000 in
theorem validAlpha_ok {nu de : Nat} (h : AlOk nu de) (o : Own w R) : Calls Try.prog 64 #[.agg #[.int .i64 (nu : Int), .int .i64 (de : Int)]] w (Ret (.bool true) R w) := by
  have h1 : (0 : Int) < (nu : Int) := by have := h.pos; omega
  have h2 : (nu : Int) < (de : Int) := by have := h.lt; omega
  have h3 : (de : Int) ≤ 1048576 := by have := h.le; omega
  have d1 : decide ((0 : Int) < (nu : Int)) = true := by simpa using h1
  have d2 : decide ((nu : Int) < (de : Int)) = true := by simpa using h2
  have d3 : decide ((de : Int) ≤ 1048576) = true := by simpa using h3
  go_enter Try.func64, Try.ntmps64
  go_wp2
  go_ret
  exact ⟨by simp [], o.alloc _ |>.drop, ⟨rfl, rfl, rfl⟩⟩

theorem ordNew_spec (r : Int) (h1 : 1 ≤ r) (h2 : r ≤ 1099511627776) (o : Own w R) :
    Calls Try.prog 66 #[.int .i64 r] w fun e w' => ∃ b, Ret (.tuple #[.pointer (some ⟨b, 0, none⟩), .int .i64 0]) (OrdR b r ⟨[], [], 0⟩ :: R) w e w' := compNew_spec r h1 h2 o

set_option maxHeartbeats 3200000 in
set_option maxRecDepth 100000 in
theorem cqNew_spec {nu de : Nat} (h : AlOk nu de) (r : Int) (h1 : 1 ≤ r) (h2 : r ≤ 1099511627776) (o : Own w R) :
    Calls Try.prog 28 #[.agg #[.int .i64 (nu : Int), .int .i64 (de : Int)], .int .i64 r] w
      fun e w' => ∃ b, Ret (.tuple #[.pointer (some ⟨b, 0, none⟩), .int .i64 0]) (CqF b (nu : Int) (de : Int) r 0 cq0 :: R) w e w' := by
  have hmm := @run_makeMap Try.prog
  have oA : Own _ (cel w.heap.size 30 [.int .i64 (nu : Int), .int .i64 (de : Int)] :: R) := o.alloc (.cells #[.int .i64 (nu : Int), .int .i64 (de : Int)] 30)
  go_enter Try.func28, Try.ntmps28
  go_wp2_with fail
  refine (sfqNew_spec r h1 h2 oA).mono ?_
  rintro e1 w1 ⟨rp, rfl, o1, k1⟩
  have c0 := (o1.up 1).cell 0
  have c1 := (o1.up 1).cell 1
  go_wp2_with fail
  refine (validAlpha_ok h o1).mono ?_
  rintro e2 w2 ⟨rfl, o2, k2⟩
  have K2 : Calm w w2 := (qcalm_alloc (Calm.refl w)).trans (k1.trans k2)
  clear c0 c1
  have c0 := (o2.up 1).cell 0
  have c1 := (o2.up 1).cell 1
  go_upto_region 4 with fail
  go_cut [8] (fun v wc => ∃ sb lp nb : Nat, v = .pointer (some ⟨sb, 0, none⟩) ∧ Own wc (cel sb 74 [.int .i64 (nu : Int), .int .i64 (de : Int), .pointer (some ⟨rp, 0, none⟩), .pointer (some ⟨lp, 0, none⟩), .pointer none, .pointer none, .map (some nb)] :: LagR lp 0 [] :: mpI cntV nb [] :: SfqR rp r ⟨[], fun _ => 0, 0, 0⟩ :: R) ∧ Calm w wc)
  case first =>
    have oX1 : Own w2.drew _ := o2.drew
    have oX2 : Own _ _ := (o2.drew).mpI_made (f := cntV) (α := Int × Int)
    have g0 := (oX2.up 2).cell 0
    have g1 := (oX2.up 2).cell 1
    go_region_held3 (fun w' => w'.cell? ⟨w.heap.size, 0, none⟩ = some (.int .i64 (nu : Int)) ∧ w'.cell? ⟨w.heap.size, 1, none⟩ = some (.int .i64 (de : Int))) (go_keep) (first | (go_at_call 65; first | (refine (lagNew_spec oX1).mono ?_; rintro _ w3 ⟨lp, rfl, o3, k3⟩; have d0 := (o3.up 2).cell 0; have d1 := (o3.up 2).cell 1; have oY := o3.mpI_made (f := cntV) (α := Int × Int); have e0 := (oY.up 3).cell 0; have e1 := (oY.up 3).cell 1) | (refine (lagNew_spec oX2).mono ?_; rintro _ w3 ⟨lp, rfl, o3, k3⟩; have d0 := (o3.up 3).cell 0; have d1 := (o3.up 3).cell 1)))
    all_goals go_wp2
    all_goals go_meet
    · have oZ := oY.alloc (.cells #[.int .i64 (nu : Int), .int .i64 (de : Int), .pointer (some ⟨rp, 0, none⟩), .pointer (some ⟨lp, 0, none⟩), .pointer none, .pointer none, .map (some w3.heap.size)] 74)
      simp only [World.size_alloc] at oZ
      exact ⟨w3.heap.size + 1, lp, w3.heap.size, rfl, (oZ.re [4, 0, 2, 1, 3] 1), qcalm_alloc (qcalm_alloc (K2.trans ((qcalm_drew (Calm.refl w2)).trans k3)))⟩
    · have oZ := o3.alloc (.cells #[.int .i64 (nu : Int), .int .i64 (de : Int), .pointer (some ⟨rp, 0, none⟩), .pointer (some ⟨lp, 0, none⟩), .pointer none, .pointer none, .map (some w2.heap.size)] 74)
      exact ⟨w3.heap.size, lp, w2.heap.size, rfl, (oZ.re [4, 0, 1, 2, 3] 1), qcalm_alloc (K2.trans ((qcalm_alloc (qcalm_drew (Calm.refl w2))).trans k3))⟩
  case rest =>
    obtain ⟨sb, lp, nb, rfl, oS, kS⟩ := hcut
    clear o2 K2 c0 c1 o1 k1 k2 oA
    go_wp2_with fail
    refine (ordNew_spec r h1 h2 oS).mono ?_
    rintro e3 w3 ⟨cp, rfl, o3, k3⟩
    have x4 := (o3.up 1).cell 4
    have xf := (o3.up 1).frozen
    have xl := (o3.up 1).celLt
    have oT := (o3.up 1).setCell 4 (.pointer (some ⟨cp, 0, none⟩))
    have K3 := qcalm_set (x := ⟨sb, 4, none⟩) (v := .pointer (some ⟨cp, 0, none⟩)) (kS.trans k3)
    clear oS kS k3
    go_wp2_with fail
    refine (ordNew_spec r h1 h2 oT).mono ?_
    rintro e4 w4 ⟨xp, rfl, o4, k4⟩
    have y5 := (o4.up 1).cell 5
    have yf := (o4.up 1).frozen
    have yl := (o4.up 1).celLt
    have oU := (o4.up 1).setCell 5 (.pointer (some ⟨xp, 0, none⟩))
    have K4 := qcalm_set (x := ⟨sb, 5, none⟩) (v := .pointer (some ⟨xp, 0, none⟩)) (K3.trans k4)
    clear oT K3 k4
    go_wp2
    go_ret2
    exact ⟨sb, rfl, CqF.iff.2 ⟨rp, lp, cp, xp, nb, oU.re [0, 5, 3, 4, 2, 1]⟩, K4⟩

set_option maxHeartbeats 1600000 in
set_option maxRecDepth 100000 in
/-- A flow joins without an error. -/
theorem cqJoin_ok (f wt : Int) (h1 : joinE s.R f wt = 0) (h2 : (nJoin s.D f wt).1 = 0) (o : Own w (CqF b num den reb N s :: R)) :
    Calls Try.prog 29 #[.pointer (some ⟨b, 0, none⟩), .int .i64 f, .int .i64 wt] w (Ret (.int .i64 0) (CqF b num den reb N { s with R := joinS s.R f wt, D := (nJoin s.D f wt).2 } :: R) w) := by
  obtain ⟨rp, lp, cp, xp, nb, o1⟩ := CqF.iff.1 o
  have c2 := o1.cell 2
  have cl := o1.celLt
  have hq := sfqJoin_spec f wt (o1.re [1])
  unfold joinR at hq
  rw [if_pos h1, h1] at hq
  dsimp only at hq
  go_enter Try.func29, Try.ntmps29
  go_wp2_with fail
  refine hq.mono ?_
  rintro e1 w1 ⟨rfl, o2, k2⟩
  clear hq c2 cl o1
  have c3 := (o2.up 1).cell 3
  have cl := (o2.up 1).celLt
  have hq := lagJoin_spec f wt (o2.re [2])
  rw [h2] at hq
  go_wp2_with fail
  refine hq.mono ?_
  rintro e3 w3 ⟨rfl, o3, k3⟩
  go_wp2
  go_ret
  exact ⟨rfl, CqF.iff.2 ⟨rp, lp, cp, xp, nb, o3.re [2, 1, 0]⟩, k2.trans k3⟩
end
end Go.Proofs.Ytkmlkpfabkhleaa

/- Cifq: the accounts. -/
namespace Go.Proofs.Ytkmlkpfabkhleaa
open Go.RowKit
open SP
section
variable {w w' : World} {R : List SP} {b rp lp cp xp nb N : Nat} {num den reb : Int} {s : Cq} {Sp : SP}

def accC (s : Cq) (t : Tg) : List Value := [.int .i64 t.f, .int .i64 t.w, .int .i64 (lagO s.D t.f), .int .i64 t.s, .int .i64 (cntO s.n t.f).1, .int .i64 (cntO s.n t.f).2, .int .i64 (tget s.C.tg t.f), .int .i64 (tget s.X.tg t.f), .int .i64 0, .int .i64 0]
theorem accC_len (s : Cq) (t : Tg) : (accC s t).length = 10 := rfl
theorem Try.accT : ElemT Try.prog 60 89 10 80 := ElemT.mk' (z := .agg #[.int .i64 0, .int .i64 0, .int .i64 0, .int .i64 0, .int .i64 0, .int .i64 0, .int .i64 0, .int .i64 0, .int .i64 0, .int .i64 0]) Try.underlying60 (by kernel_rfl) rfl (by decide)
theorem ordTag_still {C : Ord} (k : Int) (o : Own w (OrdR b reb C :: R)) : Calls Try.prog 81 #[.pointer (some ⟨b, 0, none⟩), .int .i64 k] w (IsRet (.int .i64 (tget C.tg k)) w) := by
  obtain ⟨eb, tb, o1⟩ := OrderR.iff.1 o
  have c2 := o1.cell 2
  have hlk := lookIL tb (o1.up 2) k false
  simp only [Bool.false_eq_true, if_false] at hlk
  go_enter Try.func81, Try.ntmps81
  go_wp2
  go_ret
  exact ⟨rfl, rfl⟩

def AcRel (b : Nat) (num den reb : Int) (rp lp cp xp nb N : Nat) (s : Cq) (at_ : Option Addr) (tc : Nat) (R : List SP) (w : World) (v3 v15 : Value) (wr : World) : Prop :=
  ∃ (i : Nat) (a' : Option Addr) (c' : Nat), v15 = .int .i64 (i : Int) ∧ i ≤ s.R.L.length ∧ v3 = .slice a' i c' ∧
    Own wr (slc 89 10 a' i c' (flat (accC s) (s.R.L.take i)) :: slc 106 3 at_ s.R.L.length tc (flat tagC s.R.L) :: SfqR rp reb s.R :: CqC b num den rp lp cp xp nb :: LagR lp N s.D :: mpI cntV nb s.n :: OrdR cp reb s.C :: OrdR xp reb s.X :: R) ∧ Calm w wr
def AccPost (b : Nat) (num den reb : Int) (N : Nat) (s : Cq) (R : List SP) (w : World) (e : Ending) (w' : World) : Prop :=
  ∃ (a : Option Addr) (c : Nat), Ret (.slice a s.R.L.length c) (slc 89 10 a s.R.L.length c (flat (accC s) s.R.L) :: CqF b num den reb N s :: R) w e w'

set_option maxHeartbeats 6400000 in
set_option maxRecDepth 100000 in
theorem cqAcc_spec (hl : s.R.L.length ≤ 32) (o : Own w (CqF b num den reb N s :: R)) :
    Calls Try.prog 43 #[.pointer (some ⟨b, 0, none⟩)] w (AccPost b num den reb N s R w) := by
  obtain ⟨rp, lp, cp, xp, nb, o1⟩ := CqF.iff.1 o
  have c2 := o1.cell 2
  have cl := o1.celLt
  go_enter Try.func43, Try.ntmps43
  go_wp2_with fail
  refine (sfqTags_spec (o1.re [1])).mono ?_
  rintro e2 w2 ⟨at_, tc, rfl, o2, k2⟩
  have hT : AcRel b num den reb rp lp cp xp nb N s at_ tc R w (.slice none 0 0) (.int .i64 0) w2 := ⟨0, none, 0, rfl, by omega, rfl, Own.slc_nil o2, k2⟩
  clear o2 k2 c2 cl o1 o
  go_wp2
  go_loopw [3, 15] (fun v3 v15 wr => AcRel b num den reb rp lp cp xp nb N s at_ tc R w v3 v15 wr) (fun _ v _ => s.R.L.length - (Lib.intOf v).toNat)
  case atStart => exact hT
  case round =>
    clear hT
    obtain ⟨i, a', c', rfl, hi, rfl, oR, kR⟩ := hrel
    by_cases hlt : i < s.R.L.length
    · obtain ⟨t, ht⟩ : ∃ t, s.R.L[i]? = some t := ⟨_, List.getElem?_eq_getElem (by omega)⟩
      have htk : s.R.L.take (i + 1) = s.R.L.take i ++ [t] := by rw [List.take_add_one, ht]; rfl
      have HTK := Lib.hid htk
      obtain ⟨g, rfl, hc, _, _⟩ := (oR.up 1).slc_cell (by omega)
      have d0 := hc (i * 3 + 0) _ (flat_get tagC_len s.R.L i 0 t ht (by omega))
      rw [Nat.add_zero] at d0
      have d1 := hc (i * 3 + 1) _ (flat_get tagC_len s.R.L i 1 t ht (by omega))
      have d2 := hc (i * 3 + 2) _ (flat_get tagC_len s.R.L i 2 t ht (by omega))
      change wr.cell? ⟨g, i * 3, none⟩ = some (.int .i64 t.f) at d0
      change wr.cell? ⟨g, i * 3 + 1, none⟩ = some (.int .i64 t.w) at d1
      change wr.cell? ⟨g, i * 3 + 2, none⟩ = some (.int .i64 t.s) at d2
      have HAC := Lib.hid (show flat (accC s) (s.R.L.take i) ++ accC s t = flat (accC s) (s.R.L.take (i + 1)) from by rw [htk, flat_append]; show _ = _ ++ (accC s t ++ []); rw [List.append_nil])
      clear hc ht htk
      have oA := oR.alloc (.cells #[.int .i64 t.f, .int .i64 t.w, .int .i64 t.s] 106)
      have x3 := (oA.up 4).cell 3
      have xl := (oA.up 4).celLt
      have y0 := Own.cell (T := 106) (vs := [.int .i64 t.f, .int .i64 t.w, .int .i64 t.s]) oA 0
      obtain ⟨z, hz⟩ := lagV_eq s.D t.f
      have hcall := lagLag_spec t.f (oA.drew.re [5])
      rw [hz] at hcall
      clear hz
      go_wp2
      go_region_held3 (fun w' => w'.cell? ⟨b, 3, none⟩ = some (.pointer (some ⟨lp, 0, none⟩)) ∧ w'.cell? ⟨wr.heap.size, 0, none⟩ = some (.int .i64 t.f)) (go_keep) (first | (go_at_call 73; (with_reducible refine hcall.mono ?_); rintro e3 w3 ⟨rfl, o3, k3⟩; have z3 := (o3.up 5).cell 3; have zl := (o3.up 5).celLt; have z0 := Own.cell (T := 106) (vs := [.int .i64 t.f, .int .i64 t.w, .int .i64 t.s]) (o3.up 1) 0))
      have K3 : Calm w w3 := kR.trans ((qcalm_drew (qcalm_alloc (Calm.refl wr))).trans k3)
      clear hcall k3 x3 xl y0 oA z3 zl z0 d0 d1 d2
      have hlk := fun (w : World) (R : List SP) (o : Own w (mpI cntV nb s.n :: R)) => lookC o t.f
      unfold cntV at hlk
      have hacc : accC s t = [.int .i64 t.f, .int .i64 t.w, .int .i64 (lagO s.D t.f), .int .i64 t.s, .int .i64 (cntO s.n t.f).1, .int .i64 (cntO s.n t.f).2, .int .i64 (tget s.C.tg t.f), .int .i64 (tget s.X.tg t.f), .int .i64 0, .int .i64 0] := rfl
      have hac := HAC.out
      rw [hacc] at hac
      generalize cntO s.n t.f = cn at *
      obtain ⟨cr, cl⟩ := cn
      dsimp only at hlk hac
      have HAC := Lib.hid hac
      have HLK := Lib.hid hlk
      clear hlk hacc hac
      go_wp2
      refine wp_region_draws (fun L v wc => Own wc (Pb (L 7) (L 8) (v 7) 87 [.int .i64 0, .int .i64 0] [.int .i64 cr, .int .i64 cl] :: LagR lp N s.D :: cel wr.heap.size 106 [.int .i64 t.f, .int .i64 t.w, .int .i64 t.s] :: slc 89 10 a' i c' (flat (accC s) (s.R.L.take i)) :: slc 106 3 (some ⟨g, 0, none⟩) s.R.L.length tc (flat tagC s.R.L) :: SfqR rp reb s.R :: CqC b num den rp lp cp xp nb :: mpI cntV nb s.n :: OrdR cp reb s.C :: OrdR xp reb s.X :: R) ∧ Calm w wc ∧ OVals (fun i => ([some (.pointer (some ⟨b, 0, none⟩)), some (.pointer (some ⟨b, 0, none⟩)), some (.pointer (some ⟨b, 6, none⟩)), some (.map (some nb)), some (.pointer (some ⟨wr.heap.size, 0, none⟩)), some (.int .i64 t.f), some (.agg #[.int .i64 cr, .int .i64 cl]), none, none] : List (Option Value)).getD i none) L v) (by kernel_rfl) (by kernel_rfl) (by kernel_rfl) ?h0 ?step ?fin
      case h0 => exact ⟨Pb.no o3.drew, qcalm_drew K3, OVals.no⟩
      case step =>
        refine ⟨DrawStep.mk rfl ?_, DrawStep.mk rfl ?_, DrawStep.mk rfl ?_, DrawStep.mk rfl ?_, DrawStep.mk rfl ?_, DrawStep.mk rfl ?_, DrawStep.mk rfl ?_, DrawStep.mk rfl ?_, DrawStep.mk rfl ?_, trivial⟩
        all_goals intro L v actZ wc hL hd hA hI K' hK
        all_goals obtain ⟨oD, kD, hv⟩ := hI
        all_goals simp [Region.binds] at hd
        all_goals have HV := Lib.hid hv
        all_goals clear hv
        · have c0_ := hA.base 0 (by rfl)
          simp only [List.getElem?_toArray, List.getElem?_cons_zero, Option.getD_some] at c0_
          go_simp
          exact hK.out (.pointer (some ⟨b, 0, none⟩)) _ ⟨oD, kD, HV.out.put 0 (fun _ h => some_eq h)⟩
        · have h0_ : L 0 = true := by simp [hd]
          have c29_ : actZ.tmps[29]?.getD undef = .pointer (some ⟨b, 0, none⟩) := (hA.get 0 h0_).trans (HV.out 0 _ rfl h0_)
          go_simp
          exact hK.out (.pointer (some ⟨b, 0, none⟩)) _ ⟨oD, kD, HV.out.put 1 (fun _ h => some_eq h)⟩
        · have h1_ : L 1 = true := by simp [hd]
          have c30_ : actZ.tmps[30]?.getD undef = .pointer (some ⟨b, 0, none⟩) := (hA.get 1 h1_).trans (HV.out 1 _ rfl h1_)
          go_simp
          exact hK.out (.pointer (some ⟨b, 6, none⟩)) _ ⟨oD, kD, HV.out.put 2 (fun _ h => some_eq h)⟩
        · have h2_ : L 2 = true := by simp [hd]
          have c31_ : actZ.tmps[31]?.getD undef = .pointer (some ⟨b, 6, none⟩) := (hA.get 2 h2_).trans (HV.out 2 _ rfl h2_)
          have u_ := (oD.up 6).cell 6
          go_simp
          exact hK.out (.map (some nb)) _ ⟨oD, kD, HV.out.put 3 (fun _ h => some_eq h)⟩
        · have c5_ := hA.base 5 (by rfl)
          simp only [List.getElem?_toArray, List.getElem?_cons_zero, List.getElem?_cons_succ, Option.getD_some] at c5_
          go_simp
          exact hK.out (.pointer (some ⟨wr.heap.size, 0, none⟩)) _ ⟨oD, kD, HV.out.put 4 (fun _ h => some_eq h)⟩
        · have h4_ : L 4 = true := by simp [hd]
          have c33_ : actZ.tmps[33]?.getD undef = .pointer (some ⟨wr.heap.size, 0, none⟩) := (hA.get 4 h4_).trans (HV.out 4 _ rfl h4_)
          have u_ := Own.cell (T := 106) (vs := [.int .i64 t.f, .int .i64 t.w, .int .i64 t.s]) (oD.up 2) 0
          go_simp
          exact hK.out (.int .i64 t.f) _ ⟨oD, kD, HV.out.put 5 (fun _ h => some_eq h)⟩
        · have h3_ : L 3 = true := by simp [hd]
          have c32_ : actZ.tmps[32]?.getD undef = .map (some nb) := (hA.get 3 h3_).trans (HV.out 3 _ rfl h3_)
          have h5_ : L 5 = true := by simp [hd]
          have c34_ : actZ.tmps[34]?.getD undef = .int .i64 t.f := (hA.get 5 h5_).trans (HV.out 5 _ rfl h5_)
          have u_ := HLK.out _ _ (oD.up 7)
          go_simp
          exact hK.out (.agg #[.int .i64 cr, .int .i64 cl]) _ ⟨oD, kD, HV.out.put 6 (fun _ h => some_eq h)⟩
        · rw [hL] at oD
          go_simp
          exact hK.out _ _ ⟨Pb.new oD, qcalm_alloc kD, HV.out.put 7 (fun _ h => by cases h)⟩
        · have h7_ : L 7 = true := by simp [hd]
          have c8_ := hA.get 7 h7_
          have h6_ : L 6 = true := by simp [hd]
          have c35_ : actZ.tmps[35]?.getD undef = .agg #[.int .i64 cr, .int .i64 cl] := (hA.get 6 h6_).trans (HV.out 6 _ rfl h6_)
          rw [h7_, hL] at oD
          obtain ⟨gN, hgN, oN⟩ := Pb.val oD
          rw [hgN] at c8_
          have hgN := Lib.hid hgN
          have n0_ := oN.cell 0
          have n1_ := oN.cell 1
          have nf_ := oN.frozen
          have nl_ := oN.celLt
          go_simp
          have oY := (oN.setCell 0 (.int .i64 cr)).setCell 1 (.int .i64 cl)
          have oQ := Pb.put (l := L 7) (v := v 7) (zs := [.int .i64 0, .int .i64 0]) oY h7_ hgN.out
          exact hK.out undef _ ⟨oQ, qcalm_set (qcalm_set kD), HV.out.put 8 (fun _ h => by cases h)⟩
      case fin =>
        rintro L v wc hall ⟨oD, kD, hv⟩
        rw [hall 7 (by decide), hall 8 (by decide)] at oD
        obtain ⟨gN, hgN, oN⟩ := Pb.got oD
        clear hv hall oD K3
        simp only [putAll, Act.put, List.setIfInBounds_toArray, List.set_cons_zero, List.set_cons_succ]
        have b4 := (oN.up 6).cell 4
        have b5 := (oN.up 6).cell 5
        have bl := (oN.up 6).celLt
        have t0 := Own.cell (T := 106) (vs := [.int .i64 t.f, .int .i64 t.w, .int .i64 t.s]) (oN.up 2) 0
        have t1 := Own.cell (T := 106) (vs := [.int .i64 t.f, .int .i64 t.w, .int .i64 t.s]) (oN.up 2) 1
        have t2 := Own.cell (T := 106) (vs := [.int .i64 t.f, .int .i64 t.w, .int .i64 t.s]) (oN.up 2) 2
        have tl := Own.celLt (T := 106) (vs := [.int .i64 t.f, .int .i64 t.w, .int .i64 t.s]) (oN.up 2)
        have n0 := oN.cell 0
        have n1 := oN.cell 1
        have nl := oN.celLt
        have ct1 := ordTag_still t.f (oN.drew.re [8])
        have ct2 := ordTag_still t.f (oN.drew.re [9])
        generalize lagO s.D t.f = lg at *
        generalize tget s.C.tg t.f = gc at *
        generalize tget s.X.tg t.f = gx at *
        have oX := (oN.alloc (.cells #[.int .i64 t.f, .int .i64 t.w, .int .i64 lg, .int .i64 t.s, .int .i64 cr, .int .i64 cl, .int .i64 gc, .int .i64 gx, .int .i64 0, .int .i64 0] 89)).drew
        have hnw := Own.news (T := 89) oX
        go_wp2
        go_region_held3 (fun w' => w'.cell? ⟨b, 4, none⟩ = some (.pointer (some ⟨cp, 0, none⟩)) ∧ w'.cell? ⟨b, 5, none⟩ = some (.pointer (some ⟨xp, 0, none⟩)) ∧ w'.cell? ⟨wr.heap.size, 0, none⟩ = some (.int .i64 t.f) ∧ w'.cell? ⟨wr.heap.size, 1, none⟩ = some (.int .i64 t.w) ∧ w'.cell? ⟨wr.heap.size, 2, none⟩ = some (.int .i64 t.s) ∧ w'.cell? ⟨gN, 0, none⟩ = some (.int .i64 cr) ∧ w'.cell? ⟨gN, 1, none⟩ = some (.int .i64 cl)) (go_keep) (first
          | (refine step_append_src rfl _ _ rfl Try.accT rfl (oX.up 4) rfl ⟨_, _, rfl, rfl, by intro u hu; simp only [List.mem_cons, List.not_mem_nil, or_false] at hu; rcases hu with rfl | rfl | rfl | rfl | rfl | rfl | rfl | rfl | rfl | rfl <;> rfl, .inr ⟨_, rfl, hnw⟩⟩ (by unfold maxLen; omega) (by omega) ?_; intro a2 c2 w5 o5 k5; have f4 := (o5.up 7).cell 4; have f5 := (o5.up 7).cell 5; have e0 := Own.cell (T := 106) (vs := [.int .i64 t.f, .int .i64 t.w, .int .i64 t.s]) (o5.up 4) 0; have e1 := Own.cell (T := 106) (vs := [.int .i64 t.f, .int .i64 t.w, .int .i64 t.s]) (o5.up 4) 1; have e2 := Own.cell (T := 106) (vs := [.int .i64 t.f, .int .i64 t.w, .int .i64 t.s]) (o5.up 4) 2; have m0 := (o5.up 2).cell 0; have m1 := (o5.up 2).cell 1)
          | (go_at_call 81; (with_reducible refine Calls.mono ct1 ?_); rintro _ _ ⟨rfl, rfl⟩)
          | (go_at_call 81; (with_reducible refine Calls.mono ct2 ?_); rintro _ _ ⟨rfl, rfl⟩))
        have K5 := (qcalm_drew (qcalm_alloc (x := .cells #[.int .i64 t.f, .int .i64 t.w, .int .i64 lg, .int .i64 t.s, .int .i64 cr, .int .i64 cl, .int .i64 gc, .int .i64 gx, .int .i64 0, .int .i64 0] 89) kD)).trans k5
        rw [HAC.out] at o5
        go_wp2
        go_roundw
        case rel => exact ⟨i + 1, a2, c2, by go_num, by omega, rfl, o5.re [1, 2, 4, 0, 5, 6, 7, 3, 8, 9, 10] 3, K5⟩
        case measure => simp [Lib.intOf]; omega
    · have hin : i = s.R.L.length := by omega
      subst hin
      rw [List.take_length] at oR
      go_wp2
      go_ret
      exact ⟨a', c', rfl, (Own.swap (CqF.iff.2 ⟨rp, lp, cp, xp, nb, oR.re [1, 3, 2, 4, 5, 6, 7, 0] 1⟩)), kR⟩
end
end Go.Proofs.Ytkmlkpfabkhleaa

/- Heads that are drawn. -/
namespace Go.Proofs.Ytkmlkpfabkhleaa
open Go.RowKit
open SP
section
variable {W w w' : World} {R : List SP} {b N : Nat} {Sp : SP}

def IntsAt (Sp : SP) (a : Option Addr) (F : List Int) : Prop := ∀ (w : World) (R : List SP), Own w (Sp :: R) → ∀ (i : Nat) (x : Int), F[i]? = some x → ∃ g, a = some ⟨g, 0, none⟩ ∧ w.cell? ⟨g, i, none⟩ = some (.int .i64 x)
theorem intsAt_slc {T : TypeId} (a : Option Addr) (n c : Nat) (F : List Int) (hn : n = F.length) : IntsAt (slc T 1 a n c (F.map (Value.int .i64))) a F := by
  intro w R o i x h
  have := (List.getElem?_eq_some_iff.1 h).1
  obtain ⟨g, h1, hc, _, _⟩ := o.slc_cell (by omega)
  exact ⟨g, h1, hc i _ (by rw [List.getElem?_map, h]; rfl)⟩
theorem Try.headT : ElemT Try.prog 37 41 3 24 := ElemT.mk' (z := .agg #[.int .i64 0, .int .i64 0, .bool false]) Try.underlying37 (by kernel_rfl) rfl (by decide)

def HdOk (sz : Int) (F : List Int) (H : List Head) : Prop := H.map (·.f) = F ∧ ∀ h ∈ H, 1 ≤ h.len ∧ h.len ≤ 4096 ∧ (sz ≠ 0 → h.len = sz)
def HdRel (W : World) (b N : Nat) (sz : Int) (F : List Int) (Sp : SP) (R : List SP) (w : World) (v7 v8 : Value) (wr : World) : Prop :=
  ∃ (i : Nat) (a' : Option Addr) (c' : Nat) (H : List Head), v8 = .int .i64 (i : Int) ∧ i ≤ F.length ∧ v7 = .slice a' i c' ∧ HdOk sz (F.take i) H ∧
    Own wr (slc 41 3 a' i c' (flat headC H) :: Ch W b (N + 2 * i) :: old W :: Sp :: R) ∧ Calm w wr
def HeadsPost (W : World) (b N : Nat) (sz : Int) (F : List Int) (Sp : SP) (R : List SP) (w : World) (e : Ending) (w' : World) : Prop :=
  ∃ (a : Option Addr) (c : Nat) (H : List Head), HdOk sz F H ∧ Ret (.slice a F.length c) (slc 41 3 a F.length c (flat headC H) :: Ch W b (N + 2 * F.length) :: old W :: Sp :: R) w e w'

set_option maxHeartbeats 3200000 in
set_option maxRecDepth 100000 in
theorem heads_spec {sz : Int} (hsz : sz = 0 ∨ 1 ≤ sz ∧ sz ≤ 4096) {F : List Int} {a : Option Addr} {n c : Nat} (hF : IntsAt Sp a F) (hn : n = F.length) (hl : n ≤ 32) (hN : N ≤ 800000000) (o : Own w (Ch W b N :: old W :: Sp :: R)) :
    Calls Try.prog 13 #[.pointer (some ⟨b, 0, none⟩), .slice a n c, .int .i64 sz] w (HeadsPost W b N sz F Sp R w) := by
  have Hn := Lib.hid hn
  have hT : HdRel W b N sz F Sp R w (.slice none 0 0) (.int .i64 0) w := ⟨0, none, 0, [], rfl, by omega, rfl, ⟨rfl, by simp⟩, Own.slc_nil o, Calm.refl w⟩
  clear o hn
  go_enter Try.func13, Try.ntmps13
  go_wp2
  go_loopw [7, 8] (fun v7 v8 wr => HdRel W b N sz F Sp R w v7 v8 wr) (fun _ v _ => n - (Lib.intOf v).toNat)
  case atStart => exact hT
  case round =>
    clear hT
    obtain ⟨i, a', c', H, rfl, hi, rfl, hH, oR, kR⟩ := hrel
    by_cases hlt : i < n
    · obtain ⟨x, hx⟩ : ∃ x, F[i]? = some x := ⟨_, List.getElem?_eq_getElem (by have := Hn.out; omega)⟩
      have hiN : N + 2 * i ≤ 800000100 := by omega
      have HX := Lib.hid hx
      clear hx
      obtain ⟨Z, hZ⟩ : ∃ Z, (sz == 0) = Z := ⟨_, rfl⟩
      go_upto_if 18 with fail
      go_cut [9] (fun v wc => ∃ l : Int, 1 ≤ l ∧ l ≤ 4096 ∧ (sz ≠ 0 → l = sz) ∧ v = .int .i64 l ∧ Own wc (slc 41 3 a' i c' (flat headC H) :: Ch W b (N + 2 * i + 1) :: old W :: Sp :: R) ∧ Calm w wc)
      case first =>
        cases Z with
        | true =>
          have h0 := Lib.hid (show sz = 0 by simpa using hZ)
          clear hZ
          have oC := oR.re [1, 2, 0]
          go_wp2_with fail
          refine (length_spec (W := W) (b := b) (N + 2 * i) (by omega) oC).mono ?_
          rintro e2 w2 ⟨l, hl1, hl2, rfl, o3, k3⟩
          go_wp2
          go_meet
          exact ⟨l, hl1, hl2, fun h => absurd h0.out h, rfl, o3.re [2, 0, 1], kR.trans k3⟩
        | false =>
          have h0 : sz ≠ 0 := by simpa using hZ
          clear hZ
          go_wp2
          go_meet
          exact ⟨sz, by omega, by omega, fun _ => rfl, rfl, (Ch.upto (oR.up 1) (by omega)).re [1, 0], kR⟩
      case rest =>
        obtain ⟨l, hl1, hl2, hl3, rfl, oS, kS⟩ := hcut
        clear oR kR hZ
        obtain ⟨g, rfl, d0⟩ := hF _ _ (oS.up 3) i x HX.out
        have oSd := oS.drew.re [1, 2, 0]
        go_wp2
        go_region_held3 (fun w' => w'.cell? ⟨g, i, none⟩ = some (.int .i64 x)) (go_keep) (first
          | (refine step_append_src rfl _ _ rfl Try.headT rfl (oX.up 3) rfl ⟨_, _, rfl, rfl, by intro u hu; simp only [List.mem_cons, List.not_mem_nil, or_false] at hu; rcases hu with rfl | rfl | rfl <;> rfl, .inr ⟨_, rfl, hnw⟩⟩ (by unfold maxLen; omega) (by omega) ?_; intro a2 c2 w5 o5 k5; obtain ⟨_, hh5, d5⟩ := hF _ _ (o5.up 4) i x HX.out; cases hh5)
          | (go_at_call 10; (with_reducible refine (next_spec W b (N + 2 * i + 1) 3 _ _ (by omega) (by omega) (by omega) oSd).mono ?_); rintro e2 w2 ⟨y, hy0, hy1, rfl, o3, k3⟩; obtain ⟨_, hh3, d3⟩ := hF _ _ (o3.up 3) i x HX.out; cases hh3; have oX := o3.alloc (.cells #[.int .i64 x, .int .i64 l, .bool (decide (0 < y))] 41); have hnw := Own.news (T := 41) (vs := [.int .i64 x, .int .i64 l, .bool (decide (0 < y))]) oX))
        go_wp2
        have hfl : flat headC H ++ [.int .i64 x, .int .i64 l, .bool (decide (0 < y))] = flat headC (H ++ [⟨x, l, decide (0 < y)⟩]) := by rw [flat_append]; rfl
        rw [hfl] at o5
        have K5 := (kS.trans ((qcalm_drew (Calm.refl wc)).trans k3)).trans ((qcalm_alloc (Calm.refl w2)).trans k5)
        have hH2 : HdOk sz (F.take (i + 1)) (H ++ [⟨x, l, decide (0 < y)⟩]) := by
          refine ⟨by rw [List.map_append, hH.1, List.take_add_one, HX.out]; rfl, fun h hh => ?_⟩
          rcases List.mem_append.1 hh with hh | hh
          · exact hH.2 h hh
          · have : h = ⟨x, l, decide (0 < y)⟩ := by simpa using hh
            subst this
            exact ⟨hl1, hl2, hl3⟩
        go_roundw
        case rel => exact ⟨i + 1, a2, c2, _, by go_num, by have := Hn.out; omega, rfl, hH2, o5.re [1] 1, K5⟩
        case measure => simp [Lib.intOf]; omega
    · have hin : i = F.length := by have := Hn.out; omega
      subst hin
      rw [List.take_length] at hH
      go_wp2
      go_ret
      exact ⟨a', c', H, hH, rfl, oR, kR⟩
end
end Go.Proofs.Ytkmlkpfabkhleaa

/- Cifq, plain: joining, the state in which the laws begin, the example. -/
namespace Go.Proofs.Ytkmlkpfabkhleaa
open Go.RowKit
open SP

theorem PtOk.sortK {l : List (Int × Int)} (h : PtOk l) : Go.Proofs.Ytkmlkpfabkhleaa.sortK l = l.map (·.1) := by
  unfold Go.Proofs.Ytkmlkpfabkhleaa.sortK
  refine List.Perm.eq_of_pairwise (le := fun a b => a ≤ b) (fun a b _ _ h1 h2 => Int.le_antisymm h1 h2) ?_ ?_ (List.mergeSort_perm _ _)
  · have := List.pairwise_mergeSort (le := leI) (fun a b c h1 h2 => by simp [leI] at *; omega) (fun a b => by simp [leI]; omega) (l.map (·.1))
    exact this.imp (fun h => by simpa [leI] using h)
  · rw [List.pairwise_map]; exact h.asc.imp Int.le_of_lt
def leastP (el tg : List (Int × Int)) : Int := leastL tg (el.map (·.1)) (-1)
theorem PtOk.least {l : List (Int × Int)} (h : PtOk l) (tg : List (Int × Int)) : leastF l tg = leastP l tg := by unfold leastF leastP; rw [h.sortK]
def servByP (el tg : List (Int × Int)) (tm f len : Int) : Int := min (servTm tg tm f) (tget (servTg el tg f len) (leastP el (servTg el tg f len)))
def servOP (reb : Int) (o : Ord) (f len : Int) : Int × Ord :=
  if servE o.el o.tg f len ≠ 0 then (servE o.el o.tg f len, o) else
  if servByP o.el o.tg o.tm f len < reb then (0, ⟨o.el, servTg o.el o.tg f len, servTm o.tg o.tm f⟩) else
  (0, ⟨o.el, lower (servByP o.el o.tg o.tm f len) (servTg o.el o.tg f len), servTm o.tg o.tm f - servByP o.el o.tg o.tm f len⟩)
theorem servO_eq {o : Ord} (h : PtOk o.el) (reb f len : Int) : servO reb o f len = servOP reb o f len := by
  have e : ∀ tg tm, servBy o.el tg tm f len = servByP o.el tg tm f len := fun tg tm => by unfold servBy servByP; rw [h.least]
  unfold servO servOP
  rw [e]
def chooseP (num den : Int) (s : Cq) (H : List Head) (some_ : Bool) : Chc :=
  let k := (selT s.R.L).1
  let can := (headOf H k).good
  if (can && (!decide (lagO s.D k < 0) || keepsO num den (cntO s.n k))) = true then ⟨k, k, 1⟩
  else if 0 ≤ leastP s.C.el s.C.tg then ⟨k, leastP s.C.el s.C.tg, if can = true then 2 else 3⟩
  else if can = true then ⟨k, k, 1⟩
  else if some_ = true then ⟨k, if 0 ≤ leastP s.X.el s.X.tg then leastP s.X.el s.X.tg else 0, 4⟩
  else chIdle
def servP (reb : Int) (C X : Ord) (c : Chc) (len : Int) : Int × Ord × Ord :=
  if c.why = 2 ∨ c.why = 3 then ((servOP reb C c.sv len).1, (servOP reb C c.sv len).2, X)
  else if c.why = 4 then ((servOP reb X c.sv len).1, C, (servOP reb X c.sv len).2)
  else (0, C, X)
/-- A slot, reckoned. -/
def stepP (num den reb : Int) (s : Cq) (H : List Head) : Chc × Int × Cq :=
  if fitsH s.R.L H = false then (ch0, 1, s)
  else if H = [] then (ch0, 5, s)
  else
    let C := eligO s.C (lagH s.D H)
    let X := eligO s.X (allH s.D H)
    let c := chooseP num den { s with C := C, X := X } H (!(allH s.D H).isEmpty)
    if c = chIdle then (c, 0, { s with C := C, X := X })
    else
      let len := (headOf H c.sv).len
      let r := chargeR reb s.R c.ch len
      if r.1 ≠ 0 then (ch0, r.1, s)
      else
        let o := servP reb C X c len
        if o.1 ≠ 0 then (ch0, o.1, s)
        else
          let d := nMove s.D c.ch c.sv len
          if d.1 ≠ 0 then (ch0, d.1, s)
          else (c, 0, ⟨r.2, d.2, o.2.1, o.2.2, resetC d.2 (if countC num den s c = true then bumpC s.n c len else s.n)⟩)
section
variable {i m N : Nat} {s : Cq}
theorem CqInv.reckon (h : CqInv i m N s) (num den reb : Int) (H : List Head) : stepC num den reb s H = stepP num den reb s H := by
  have hl : ∀ p, PtOk (pickH s.D p H) := fun p => h.dpt.sub (pickH_sub _ _ _)
  have eC : PtOk (eligO s.C (lagH s.D H)).el := (h.c.elig (hl _)).pts
  have eX : PtOk (eligO s.X (allH s.D H)).el := (h.x.elig (hl _)).pts
  have e1 : chooseC num den { s with C := eligO s.C (lagH s.D H), X := eligO s.X (allH s.D H) } H (!(allH s.D H).isEmpty) = chooseP num den { s with C := eligO s.C (lagH s.D H), X := eligO s.X (allH s.D H) } H (!(allH s.D H).isEmpty) := by
    unfold chooseC chooseP
    dsimp only
    rw [eC.least, eX.least]
  have e2 : ∀ c len, servC reb (eligO s.C (lagH s.D H)) (eligO s.X (allH s.D H)) c len = servP reb (eligO s.C (lagH s.D H)) (eligO s.X (allH s.D H)) c len := fun c len => by
    unfold servC servP
    rw [servO_eq eC, servO_eq eX]
  unfold stepC stepP
  dsimp only
  rw [e1]
  simp only [e2]
/-- A slot with heads that fit gives no error. -/
theorem CqInv.next (h : CqInv i m N s) (hi : i ≤ 299) (hN : N ≤ 1000000) (num den reb : Int) {H : List Head} (hf : fitsH s.R.L H = true) (hne : H ≠ []) :
    (stepC num den reb s H).2.1 = 0 ∧ CqInv (i + 1) (m + 1) (N + 1) (stepC num den reb s H).2.2 := by
  obtain ⟨_, _, _, _, h5⟩ := h.step hi hN num den reb hf hne rfl rfl rfl
  rcases h5 with ⟨_, e, h6⟩ | ⟨j, why, len, _, _, _, _, _, _, _, e, _, _, _, h6, _⟩
  · rw [e]; exact ⟨rfl, h6.le (by omega) (by omega) (by omega)⟩
  · rw [e]; exact ⟨rfl, h6⟩
def joinC (s : Cq) (f w : Int) : Cq := { s with R := joinS s.R f w, D := (nJoin s.D f w).2 }
theorem CqInv.join (h : CqInv i m N s) {f w : Int} (he : joinE s.R f w = 0) : (nJoin s.D f w).1 = 0 ∧ CqInv i m N (joinC s f w) := by
  obtain ⟨_, hn, h1, h2, h3, h4⟩ := h.t.ok.join he
  have hD : fget s.D f = none := fget_none.2 fun t ht e => by
    have : f ∈ s.D.map (·.f) := List.mem_map.2 ⟨t, ht, e⟩
    rw [h.fl] at this
    obtain ⟨u, hu⟩ := fget_of_f this
    rw [hn] at hu; cases hu
  have hj : nJoin s.D f w = (0, insT ⟨f, w, 0⟩ s.D) := by unfold nJoin; rw [if_neg (by omega), hD]; rfl
  have hpt : ∀ (x : Tg) (L : List Tg), ptsOf (insT x L) = ptsOf (insT ⟨x.f, x.w, 0⟩ (L.map fun t => ⟨t.f, t.w, 0⟩)) := fun x L => by
    induction L with
    | nil => rfl
    | cons t L ih =>
      unfold insT
      rw [List.map_cons]
      show ptsOf (if t.f < x.f then t :: insT x L else x :: t :: L) = ptsOf (if t.f < x.f then ⟨t.f, t.w, 0⟩ :: insT ⟨x.f, x.w, 0⟩ (L.map fun t => ⟨t.f, t.w, 0⟩) else ⟨x.f, x.w, 0⟩ :: ⟨t.f, t.w, 0⟩ :: L.map fun t => ⟨t.f, t.w, 0⟩)
      split
      · show (t.f, t.w) :: ptsOf (insT x L) = (t.f, t.w) :: ptsOf _
        rw [ih]
      · show (x.f, x.w) :: (t.f, t.w) :: ptsOf L = (x.f, x.w) :: (t.f, t.w) :: ptsOf _
        congr 2
        unfold ptsOf
        rw [List.map_map]; rfl
  have hmp : ∀ {L M : List Tg}, ptsOf L = ptsOf M → (L.map fun t => (⟨t.f, t.w, 0⟩ : Tg)) = M.map fun t => ⟨t.f, t.w, 0⟩ := fun {L M} e => by
    have := congrArg (List.map fun p : Int × Int => (⟨p.1, p.2, 0⟩ : Tg)) e
    unfold ptsOf at this
    rwa [List.map_map, List.map_map] at this
  refine ⟨by rw [hj], h.t.joinS he, h.aw, ?_, ?_, ?_, h.c, h.x, h.nu, h.nv⟩
  · unfold joinC joinS
    dsimp only
    rw [hj]
    dsimp only
    rw [hpt, hpt ⟨f, w, max s.R.tm (s.R.old f)⟩, hmp h.pts]
  · exact nJoin_ok h.lg f w
  · exact (nJoin_sum s.D f w).trans h.sum
end
/-- Flows 0, 1, .. with these weights have joined. -/
def lw (ws : List Int) : List Tg := (List.range ws.length).map fun (i : Nat) => (⟨(i : Int), ws.getD i 0, 0⟩ : Tg)
def stW (ws : List Int) : Cq := ⟨⟨lw ws, fun _ => 0, 0, 0⟩, lw ws, ⟨[], [], 0⟩, ⟨[], [], 0⟩, []⟩
theorem lw_snoc (ws : List Int) (w : Int) : lw (ws ++ [w]) = lw ws ++ [⟨(ws.length : Int), w, 0⟩] := by
  unfold lw
  rw [List.length_append, List.length_singleton, List.range_succ, List.map_append]
  congr 1
  · refine List.map_congr_left fun i hi => ?_
    have := List.mem_range.1 hi
    rw [List.getD_eq_getElem?_getD, List.getElem?_append_left this, ← List.getD_eq_getElem?_getD]
  · simp
theorem insT_end {x : Tg} : ∀ {L : List Tg}, (∀ t ∈ L, t.f < x.f) → insT x L = L ++ [x]
  | [], _ => rfl
  | a :: L, h => by
    unfold insT
    rw [if_pos (h a (by simp)), insT_end fun t ht => h t (by simp [ht])]; rfl
theorem lw_lt {ws : List Int} : ∀ t ∈ lw ws, 0 ≤ t.f ∧ t.f < (ws.length : Int) := fun t ht => by
  unfold lw at ht
  obtain ⟨i, hi, rfl⟩ := List.mem_map.1 ht
  have := List.mem_range.1 hi
  dsimp only
  omega
theorem lw_len (ws : List Int) : (lw ws).length = ws.length := by unfold lw; simp
theorem lw_fresh {ws : List Int} {f : Int} (h : (ws.length : Int) ≤ f) : fget (lw ws) f = none := fget_none.2 fun t ht e => by have := lw_lt t ht; omega
theorem stW_join {ws : List Int} {w : Int} (hl : ws.length < 32) (h1 : 1 ≤ w) (h2 : w ≤ 16) : joinE (stW ws).R ws.length w = 0 ∧ joinC (stW ws) ws.length w = stW (ws ++ [w]) := by
  have hf : fget (lw ws) (ws.length : Int) = none := lw_fresh (Int.le_refl _)
  have he : joinE (stW ws).R ws.length w = 0 := by
    unfold joinE stW
    dsimp only
    rw [if_neg (by omega), hf]; rfl
  refine ⟨he, ?_⟩
  have hj : nJoin (lw ws) (ws.length : Int) w = (0, lw (ws ++ [w])) := by
    unfold nJoin
    rw [if_neg (by omega), hf, insT_end (fun t ht => (lw_lt t ht).2), lw_snoc]; rfl
  have ho : (fun g : Int => if g = (ws.length : Int) then (0 : Int) else 0) = fun _ => 0 := by funext g; split <;> rfl
  unfold joinC joinS stW
  dsimp only
  rw [hj, ho, insT_end (fun t ht => (lw_lt t ht).2), lw_snoc]
  rfl
theorem stW_inv : ∀ (n : Nat) (ws : List Int), ws.length = n → n ≤ 32 → (∀ w ∈ ws, 1 ≤ w ∧ w ≤ 16) → CqInv 0 0 0 (stW ws)
  | 0, ws, h, _, _ => by rw [List.eq_nil_of_length_eq_zero h]; exact CqInv.start
  | n + 1, ws, h, hn, hw => by
    obtain ⟨ws', w, rfl⟩ : ∃ ws' w, ws = ws' ++ [w] := ⟨ws.dropLast, ws.getLast (by intro e; rw [e] at h; cases h), (List.dropLast_concat_getLast _).symm⟩
    have hl : ws'.length = n := by simp at h; omega
    obtain ⟨h1, h2⟩ := stW_join (ws := ws') (w := w) (by omega) (hw w (by simp)).1 (hw w (by simp)).2
    rw [← h2]
    exact ((stW_inv n ws' hl (by omega) fun x hx => hw x (by simp [hx])).join h1).2

/-! ### The example -/
def awH : Nat → List Head
  | 0 => [⟨0, 100, false⟩, ⟨1, 100, true⟩]
  | _ => [⟨0, 100, true⟩, ⟨1, 100, true⟩]
def awS : Nat → Cq
  | 0 => stW [1, 1]
  | k + 1 => (stepP 1 2 1099511627776 (awS k) (awH k)).2.2
def awC : Nat → Chc
  | 0 => ⟨0, 1, 4⟩
  | 1 => ⟨1, 1, 1⟩
  | 2 => ⟨0, 0, 1⟩
  | _ => ⟨1, 0, 2⟩
theorem aw_inv : ∀ k : Nat, k ≤ 4 → CqInv k k k (awS k)
  | 0, _ => stW_inv 2 [1, 1] rfl (by omega) (by simp)
  | k + 1, h => by
    have ih := aw_inv k (by omega)
    have hf : fitsH (awS k).R.L (awH k) = true := by
      have : k = 0 ∨ k = 1 ∨ k = 2 ∨ k = 3 := by omega
      rcases this with rfl | rfl | rfl | rfl <;> decide
    have := (ih.next (by omega) (by omega) 1 2 1099511627776 hf (by cases k <;> simp [awH])).2
    rw [ih.reckon] at this
    exact this
theorem aw_step {k : Nat} (h : k < 4) : fitsH (awS k).R.L (awH k) = true ∧ stepC 1 2 1099511627776 (awS k) (awH k) = (awC k, 0, awS (k + 1)) := by
  rw [(aw_inv k (by omega)).reckon]
  have : k = 0 ∨ k = 1 ∨ k = 2 ∨ k = 3 := by omega
  rcases this with rfl | rfl | rfl | rfl
  · exact ⟨by decide, by rfl⟩
  · exact ⟨by decide, by rfl⟩
  · exact ⟨by decide, by rfl⟩
  · exact ⟨by decide, by rfl⟩
end Go.Proofs.Ytkmlkpfabkhleaa

/- The sum of the lags of cifq. -/
namespace Go.Proofs.Ytkmlkpfabkhleaa
open Go.RowKit
open SP
section
variable {w w' : World} {R : List SP} {b rp lp cp xp nb N : Nat} {num den : Int} {D : List Tg}

set_option maxHeartbeats 1600000 in
set_option maxRecDepth 100000 in
theorem cqSum_spec (hN : (N : Int) ≤ 1000000000000) (o : Own w (CqC b num den rp lp cp xp nb :: LagR lp N D :: R)) :
    Calls Try.prog 44 #[.pointer (some ⟨b, 0, none⟩)] w (Ret (.int .i64 (sumS D)) (CqC b num den rp lp cp xp nb :: LagR lp N D :: R) w) := by
  have c3 := o.cell 3
  have hlt := o.celLt
  have hc := lagSum_spec hN (o.up 1)
  generalize sumS D = X at *
  go_enter Try.func44, Try.ntmps44
  go_wp2_with fail
  refine hc.mono ?_
  rintro e1 w1 ⟨rfl, o1, k1⟩
  clear hc
  go_wp2
  go_ret
  exact ⟨rfl, o1.up 1, k1⟩
end
end Go.Proofs.Ytkmlkpfabkhleaa

/- Cifq, plain: how long a lagging flow waits at most. -/
namespace Go.Proofs.Ytkmlkpfabkhleaa
open Go.RowKit
open SP

/-! ### Turns: how many services may come before a flow's own -/
theorem sumI_mono {α : Type} {g h : α → Int} : ∀ {l : List α}, (∀ x ∈ l, g x ≤ h x) → sumI (l.map g) ≤ sumI (l.map h)
  | [], _ => Int.le_refl _
  | x :: l, hh => by
    have h1 := hh x (by simp)
    have h2 := sumI_mono (l := l) fun y hy => hh y (by simp [hy])
    rw [List.map_cons, List.map_cons, sumI_cons, sumI_cons]; omega
theorem sumI_less {α : Type} {g h : α → Int} : ∀ {l : List α}, (∀ x ∈ l, g x ≤ h x) → (∃ x ∈ l, g x + 1 ≤ h x) → sumI (l.map g) + 1 ≤ sumI (l.map h)
  | [], _, he => by obtain ⟨x, hx, _⟩ := he; cases hx
  | x :: l, hh, he => by
    have h1 := hh x (by simp)
    have h2 := sumI_mono (l := l) fun y hy => hh y (by simp [hy])
    rw [List.map_cons, List.map_cons, sumI_cons, sumI_cons]
    obtain ⟨y, hy, hl⟩ := he
    rcases List.mem_cons.1 hy with rfl | hy
    · omega
    · have := sumI_less (l := l) (fun y hy => hh y (by simp [hy])) ⟨y, hy, hl⟩
      omega
theorem sumI_nn {l : List Int} (h : ∀ x ∈ l, 0 ≤ x) : 0 ≤ sumI l := by
  induction l with
  | nil => exact Int.le_refl _
  | cons x l ih =>
    have h1 := h x (by simp)
    have h2 := ih fun y hy => h y (by simp [hy])
    rw [sumI_cons]; omega

theorem cst_pos {sz w : Int} (hs : 1 ≤ sz) (h1 : 1 ≤ w) (h2 : w ≤ 16) : 0 < cst sz w := by
  have := unit1_range h1 h2
  unfold cst
  exact Int.mul_pos (by omega) (by omega)
def trn1 (sz : Int) (v : Int → Int) (l : Int) (p : Int × Int) : Int := if p.1 = l then 0 else if v l < v p.1 then 0 else (v l - v p.1) / cst sz p.2 + 1
def trn (sz : Int) (P : List (Int × Int)) (v : Int → Int) (l : Int) : Int := 1 + sumI (P.map (trn1 sz v l))
def turnT (P : List (Int × Int)) (l w : Int) : Int := 1 + sumI (P.map fun p => if p.1 = l then 0 else p.2 / w + 1)
section
variable {sz : Int} {P : List (Int × Int)} {v v' : Int → Int} {l : Int}
theorem trn1_nn (hc : ∀ p ∈ P, 0 < cst sz p.2) {p : Int × Int} (hp : p ∈ P) : 0 ≤ trn1 sz v l p := by
  unfold trn1
  split
  · exact Int.le_refl _
  · split
    · exact Int.le_refl _
    · have := Int.ediv_nonneg (show 0 ≤ v l - v p.1 by omega) (show 0 ≤ cst sz p.2 by have := hc p hp; omega)
      omega
theorem trn_pos (hc : ∀ p ∈ P, 0 < cst sz p.2) : 1 ≤ trn sz P v l := by
  unfold trn
  have := sumI_nn (l := P.map (trn1 sz v l)) fun x hx => by obtain ⟨p, hp, rfl⟩ := List.mem_map.1 hx; exact trn1_nn hc hp
  omega
theorem trn_shift {d : Int} (hl : v' l = v l - d) (h : ∀ p ∈ P, v' p.1 = v p.1 - d) : trn sz P v' l = trn sz P v l := by
  unfold trn
  congr 1
  congr 1
  refine List.map_congr_left fun p hp => ?_
  unfold trn1
  rw [hl, h p hp]
  have e : v l - d - (v p.1 - d) = v l - v p.1 := by omega
  rw [e]
  by_cases h1 : v l < v p.1
  · rw [if_pos (show v l - d < v p.1 - d by omega), if_pos h1]
  · rw [if_neg (show ¬ v l - d < v p.1 - d by omega), if_neg h1]
/-- Another flow is served: one turn fewer. -/
theorem trn_dec (hc : ∀ p ∈ P, 0 < cst sz p.2) (hl : v' l = v l) (h : ∀ p ∈ P, p.1 ≠ l → v p.1 ≤ v' p.1) {p : Int × Int} (hp : p ∈ P) (hne : p.1 ≠ l) (hv : v p.1 ≤ v l) (hs : v' p.1 = v p.1 + cst sz p.2) :
    trn sz P v' l + 1 ≤ trn sz P v l := by
  unfold trn
  have := sumI_less (l := P) (g := trn1 sz v' l) (h := trn1 sz v l) (fun q hq => ?_) ⟨p, hp, ?_⟩
  · omega
  · unfold trn1
    by_cases hql : q.1 = l
    · rw [if_pos hql, if_pos hql]; exact Int.le_refl _
    · rw [if_neg hql, if_neg hql, hl]
      have h1 := h q hq hql
      have h2 := hc q hq
      by_cases h3 : v l < v' q.1
      · rw [if_pos h3]
        split
        · exact Int.le_refl _
        · have := Int.ediv_nonneg (show 0 ≤ v l - v q.1 by omega) (show 0 ≤ cst sz q.2 by omega)
          omega
      · rw [if_neg h3, if_neg (by omega)]
        have := Int.ediv_le_ediv h2 (show v l - v' q.1 ≤ v l - v q.1 by omega)
        omega
  · unfold trn1
    have h2 := hc p hp
    rw [if_neg hne, if_neg hne, hl, hs, if_neg (show ¬ v l < v p.1 by omega)]
    by_cases h3 : v l < v p.1 + cst sz p.2
    · rw [if_pos h3]
      have := Int.ediv_nonneg (show 0 ≤ v l - v p.1 by omega) (show 0 ≤ cst sz p.2 by omega)
      omega
    · rw [if_neg h3]
      have e : v l - v p.1 = (v l - (v p.1 + cst sz p.2)) + 1 * cst sz p.2 := by omega
      rw [e, Int.add_mul_ediv_right _ _ (by omega)]
      omega
theorem unit_quot {sz w w' : Int} (hs : 1 ≤ sz) (h1 : 1 ≤ w) (h2 : w ≤ 16) (h3 : 1 ≤ w') (h4 : w' ≤ 16) : cst sz w / cst sz w' = w' / w := by
  have u := unit1_range h1 h2
  have u' := unit1_range h3 h4
  unfold cst
  rw [Int.mul_ediv_mul_of_pos _ _ (show 0 < sz by omega)]
  have e : unit1 w * w = unit1 w' * w' := by rw [unit1_mul h1 h2, unit1_mul h3 h4]
  rw [← Int.mul_ediv_mul_of_pos_left (unit1 w) (unit1 w') (show 0 < w by omega), e, Int.mul_ediv_mul_of_pos _ _ (show 0 < unit1 w' by omega)]
theorem trn_bound (hsz : 1 ≤ sz) (hP : PtOk P) {w base : Int} (hw : 1 ≤ w ∧ w ≤ 16) (hl : v l ≤ base + cst sz w) (h : ∀ p ∈ P, base ≤ v p.1) : trn sz P v l ≤ turnT P l w := by
  unfold trn turnT
  have := sumI_mono (l := P) (g := trn1 sz v l) (h := fun p => if p.1 = l then 0 else p.2 / w + 1) fun p hp => ?_
  · omega
  · have hr := hP.rng p hp
    have hb := h p hp
    have hc := cst_pos hsz hr.2.2.1 hr.2.2.2
    unfold trn1
    split
    · exact Int.le_refl _
    · split
      · have := Int.ediv_nonneg (show 0 ≤ p.2 by omega) (show 0 ≤ w by omega)
        omega
      · have := Int.ediv_le_ediv hc (show v l - v p.1 ≤ cst sz w by omega)
        rw [unit_quot hsz hw.1 hw.2 hr.2.2.1 hr.2.2.2] at this
        omega
end

/-! ### What a slot does, by lookups -/
theorem lagO_get {L : List Tg} {f : Int} {t : Tg} (h : fget L f = some t) : lagO L f = t.s := by unfold lagO; rw [h]; rfl
theorem lagO_none {L : List Tg} {f : Int} (h : fget L f = none) : lagO L f = 0 := by unfold lagO; rw [h]; rfl
theorem charge_tags {i : Nat} {S : St} (h : TInv i S) (hi : i ≤ 300) (hne : S.L ≠ []) {len : Int} (h1 : 1 ≤ len) (h2 : len ≤ 4096) (r : Int) :
    ∃ by_ : Int, (∀ f ∈ S.L.map (·.f), lagO (chargeR r S (lst S.L).f len).2.L f = (if f = (lst S.L).f then lagO S.L f + cst len (lst S.L).w else lagO S.L f) - by_) ∧
      (chargeR r S (lst S.L).f len).2.tm = (lst S.L).s - by_ ∧ ptsOf (chargeR r S (lst S.L).f len).2.L = ptsOf S.L := by
  obtain ⟨hq, _⟩ := h.charge hi hne h1 h2 r
  obtain ⟨_, hT, hmx⟩ := h.ch hi hne h1 h2
  have hby := hT.by_ (setT_ne hne)
  have hfk : fget S.L (lst S.L).f = some (lst S.L) := fget_mem h.ok.ok (lst_mem hne)
  have hset : ∀ f ∈ S.L.map (·.f), ∃ t, fget S.L f = some t ∧ fget (setT ⟨(lst S.L).f, (lst S.L).w, (lst S.L).s + cst len (lst S.L).w⟩ S.L) f = some ⟨t.f, t.w, if f = (lst S.L).f then t.s + cst len (lst S.L).w else t.s⟩ := fun f hf => by
    obtain ⟨t, ht⟩ := fget_of_f hf
    refine ⟨t, ht, ?_⟩
    rw [fget_setT]
    by_cases hk : f = (lst S.L).f
    · rw [if_pos hk, ht, if_pos hk]
      rw [hk, hfk] at ht
      cases ht; rfl
    · rw [if_neg hk, ht, if_neg hk]
  have hpt : ptsOf (setT ⟨(lst S.L).f, (lst S.L).w, (lst S.L).s + cst len (lst S.L).w⟩ S.L) = ptsOf S.L := by
    unfold setT ptsOf
    rw [List.map_map]
    refine List.map_congr_left fun t ht => ?_
    show ((if t.f = (lst S.L).f then (⟨(lst S.L).f, (lst S.L).w, (lst S.L).s + cst len (lst S.L).w⟩ : Tg) else t).f, (if t.f = (lst S.L).f then (⟨(lst S.L).f, (lst S.L).w, (lst S.L).s + cst len (lst S.L).w⟩ : Tg) else t).w) = (t.f, t.w)
    split
    · rename_i e
      rw [h.ok.ok.inj ht (lst_mem hne) e]
    · rfl
  rw [hq]
  dsimp only
  unfold rebS
  rw [hby]
  split
  · refine ⟨0, fun f hf => ?_, ?_, hpt⟩
    · obtain ⟨t, e1, e2⟩ := hset f hf
      show lagO (setT _ S.L) f = _
      rw [lagO_get e2, lagO_get e1]
      dsimp only
      split <;> omega
    · show max S.tm (lst S.L).s = _; omega
  · refine ⟨max S.tm (lst S.L).s, fun f hf => ?_, ?_, ?_⟩
    · obtain ⟨t, e1, e2⟩ := hset f hf
      have e3 : fget (subS (chS S (lst S.L) ((lst S.L).s + cst len (lst S.L).w)) (chS S (lst S.L) ((lst S.L).s + cst len (lst S.L).w)).tm).L f = some ⟨t.f, t.w, (if f = (lst S.L).f then t.s + cst len (lst S.L).w else t.s) - max S.tm (lst S.L).s⟩ := by
        unfold subS
        dsimp only
        rw [fget_map _ (by intro t; rfl)]
        show (fget (setT _ S.L) f).map _ = _
        rw [e2]; rfl
      rw [lagO_get e3, lagO_get e1]
    · show max S.tm (lst S.L).s - max S.tm (lst S.L).s = _; omega
    · unfold subS ptsOf
      dsimp only
      rw [List.map_map]
      exact hpt
theorem lagO_move {D : List Tg} (_ : NOk D) {c s n : Int} (hz : (nMove D c s n).1 = 0) (f : Int) : lagO (nMove D c s n).2 f = lagO D f + (if f = c then n else 0) - (if f = s then n else 0) := by
  unfold nMove at hz ⊢
  cases hc : fget D c with
  | none => rw [hc] at hz; cases hz
  | some a =>
    cases hd : fget D s with
    | none => rw [hc, hd] at hz; cases hz
    | some d =>
      rw [hc, hd] at hz
      dsimp only at hz ⊢
      split at hz
      · cases hz
      · rename_i h1
        rw [if_neg h1]
        by_cases h2 : c = s
        · rw [if_pos h2]
          subst h2
          show lagO D f = _
          split <;> omega
        · rw [if_neg h2] at hz ⊢
          split at hz
          · cases hz
          · rename_i h3
            rw [if_neg h3]
            dsimp only
            obtain ⟨ma, rfl⟩ := fget_some hc
            obtain ⟨md, rfl⟩ := fget_some hd
            unfold lagO
            rw [fget_setT, fget_setT]
            dsimp only
            by_cases f1 : f = d.f
            · subst f1
              rw [if_pos rfl, if_neg (Ne.symm h2), hd, if_neg (Ne.symm h2), if_pos rfl]
              show d.s - n = d.s + 0 - n; omega
            · rw [if_neg f1, if_neg f1]
              by_cases f2 : f = a.f
              · subst f2
                rw [if_pos rfl, if_pos rfl, hc]
                show a.s + n = a.s + n - 0; omega
              · rw [if_neg f2, if_neg f2]; omega
theorem mget_filtK {α : Type} (p : Int → Bool) (f : Int) : ∀ n : List (Int × α), mget (n.filter fun x => p x.1) f = if p f = true then mget n f else none
  | [] => by simp [mget]
  | (k, v) :: n => by
    have ih := mget_filtK p f n
    by_cases hk : p k = true
    · rw [List.filter_cons_of_pos (by simpa using hk)]
      show (if f = k then some v else mget _ f) = if p f = true then (if f = k then some v else mget n f) else none
      rw [ih]
      by_cases hf : f = k
      · subst hf; rw [if_pos rfl, if_pos hk, if_pos rfl]
      · rw [if_neg hf, if_neg hf]
    · rw [List.filter_cons_of_neg (by simpa using hk), ih]
      show _ = if p f = true then (if f = k then some v else mget n f) else none
      by_cases hf : f = k
      · subst hf; rw [if_neg hk, if_neg hk]
      · rw [if_neg hf]
theorem cnt_next (D : List Tg) (n : List (Int × (Int × Int))) (f : Int) : cntO (resetC D n) f = if lagO D f < 0 then cntO n f else (0, 0) := by
  unfold cntO resetC
  rw [mget_filtK (fun k => decide (lagO D k < 0)) f n]
  by_cases h : lagO D f < 0
  · rw [if_pos (by simpa using h), if_pos h]
  · rw [if_neg (by simpa using h), if_neg h]; rfl
theorem cnt_bump (n : List (Int × (Int × Int))) (c : Chc) (len f : Int) : cntO (bumpC n c len) f = if f = c.ch then ((cntO n c.ch).1 + len, if c.ch = c.sv then (cntO n c.ch).2 + len else (cntO n c.ch).2) else cntO n f := by
  unfold bumpC
  generalize cntO n c.ch = z
  unfold cntO
  rw [mget_mput]
  split <;> rfl
theorem ex_lead {N : Nat} {D : List Tg} (h : LgOk N D) (h0 : sumS D = 0) {i : Int} (hi : 0 < lagO D i) : ∃ l, l ∈ D.map (·.f) ∧ lagO D l < 0 := by
  refine Classical.byContradiction fun hn => ?_
  have hall : ∀ t ∈ D, 0 ≤ t.s := fun t ht => by
    have e := lagO_get (fget_memN h.ok ht)
    by_cases hs : t.s < 0
    · exact absurd ⟨t.f, List.mem_map.2 ⟨t, ht, rfl⟩, by omega⟩ hn
    · omega
  obtain ⟨t, ht⟩ : ∃ t, fget D i = some t := by
    cases hf : fget D i with
    | none => rw [lagO_none hf] at hi; omega
    | some t => exact ⟨t, rfl⟩
  rw [lagO_get ht] at hi
  have hm : ab t.s ≤ absS D := absS_mem (fget_some ht).1
  have he : absS D = sumS D := by
    unfold absS sumS
    exact sumI_ab_nonneg _ fun q hq => by obtain ⟨u, hu, rfl⟩ := List.mem_map.1 hq; exact hall u hu
  unfold ab at hm
  omega
end Go.Proofs.Ytkmlkpfabkhleaa

/- Cifq: a slot as one contract; lagOf; alpha; the example. -/
namespace Go.Proofs.Ytkmlkpfabkhleaa
open Go.RowKit
open SP
section
variable {W w w' : World} {R : List SP} {b N cb K : Nat} {num den reb : Int} {s : Cq} {Sp : SP}

theorem cqStep_ok {i m : Nat} {nu de : Nat} (hI : CqInv i m N s) (hi : i ≤ 299) (hm : m ≤ 200000) (hN : N ≤ 1000000) (hA : AlOk nu de)
    {a : Option Addr} {n c : Nat} {H : List Head} (h1 : HeadsAt Sp a H) (hn : n = H.length) (hf : fitsH s.R.L H = true) (hne : H ≠ [])
    (o : Own w (CqF b (nu : Int) (de : Int) reb N s :: Sp :: R)) :
    Calls Try.prog 12 #[.pointer (some ⟨b, 0, none⟩), .slice a n c] w
      (Ret (.tuple #[chV (stepC (nu : Int) (de : Int) reb s H).1, .int .i64 0]) (CqF b (nu : Int) (de : Int) reb (N + 1) (stepC (nu : Int) (de : Int) reb s H).2.2 :: Sp :: R) w) := by
  obtain ⟨rp, lp, cp, xp, nb, o1⟩ := CqF.iff.1 o
  have hl : H.length ≤ 32 := by
    have := congrArg List.length (fits_facts hf).1
    simp only [List.length_map] at this
    have := hI.t.ok.ok.len
    omega
  have h0 := (hI.next hi hN (nu : Int) (de : Int) reb hf hne).1
  have := step_go (reb := reb) hI hi hm hN (by have := hA.lt; have := hA.le; omega) (by have := hA.le; omega) (c := c) h1 hn (by omega) hf hne o1
  rw [h0] at this
  exact this

def LoRel (b : Nat) (num den reb : Int) (N : Nat) (s : Cq) (f : Int) (a : Option Addr) (c : Nat) (R : List SP) (w : World) (v : Value) (wr : World) : Prop :=
  ∃ i : Nat, v = .int .i64 (i : Int) ∧ i ≤ s.R.L.length ∧ (∀ (j : Nat) (t : Tg), j < i → s.R.L[j]? = some t → t.f ≠ f) ∧ Own wr (slc 89 10 a s.R.L.length c (flat (accC s) s.R.L) :: CqF b num den reb N s :: R) ∧ Calm w wr
set_option maxHeartbeats 3200000 in
set_option maxRecDepth 100000 in
theorem lagOf_spec {i m M : Nat} (hI : CqInv i m M s) (f : Int) (o : Own w (CqF b num den reb N s :: R)) :
    Calls Try.prog 14 #[.pointer (some ⟨b, 0, none⟩), .int .i64 f] w (Ret (.int .i64 (lagO s.D f)) (CqF b num den reb N s :: R) w) := by
  have hlen := hI.t.ok.ok.len
  go_enter Try.func14, Try.ntmps14
  go_wp2_with fail
  refine (cqAcc_spec hlen o).mono ?_
  rintro e1 w1 ⟨a, c, rfl, o1, k1⟩
  have hT : LoRel b num den reb N s f a c R w (.int .i64 0) w1 := ⟨0, rfl, by omega, by omega, o1, k1⟩
  clear o1 k1 o
  go_wp2
  go_loopw [6] (fun v wr => LoRel b num den reb N s f a c R w v wr) (fun v _ => s.R.L.length - (Lib.intOf v).toNat)
  case atStart => exact hT
  case round =>
    clear hT
    obtain ⟨j, rfl, hj, hno, oR, kR⟩ := hrel
    by_cases hlt : j < s.R.L.length
    · obtain ⟨t, ht⟩ : ∃ t, s.R.L[j]? = some t := ⟨_, List.getElem?_eq_getElem (by omega)⟩
      obtain ⟨g, rfl, hc, _, _⟩ := oR.slc_cell (by omega)
      have d0 := hc (j * 10 + 0) _ (flat_get (accC_len s) s.R.L j 0 t ht (by omega))
      rw [Nat.add_zero] at d0
      have d2 := hc (j * 10 + 2) _ (flat_get (accC_len s) s.R.L j 2 t ht (by omega))
      change wr.cell? ⟨g, j * 10, none⟩ = some (.int .i64 t.f) at d0
      change wr.cell? ⟨g, j * 10 + 2, none⟩ = some (.int .i64 (lagO s.D t.f)) at d2
      have HT := Lib.hid ht
      clear hc ht
      by_cases he : t.f = f
      · have hb : (t.f == f) = true := by simpa using he
        rw [he] at d2
        have HE := Lib.hid he
        clear he
        go_wp2
        go_ret
        exact ⟨rfl, oR.drop, kR⟩
      · have hb : (t.f == f) = false := by simpa using he
        have HE := Lib.hid he
        clear he
        go_wp2
        go_roundw
        case rel => exact ⟨j + 1, by go_num, by omega, fun q u hq hu => by
          by_cases e : q = j
          · subst e; rw [HT.out] at hu; cases hu; exact HE.out
          · exact hno q u (by omega) hu, oR, kR⟩
        case measure => simp [Lib.intOf]; omega
    · have hz : lagO s.D f = 0 := by
        refine lagO_none (fget_none.2 fun t ht e => ?_)
        have hm : f ∈ s.D.map (·.f) := List.mem_map.2 ⟨t, ht, e⟩
        rw [hI.fl] at hm
        obtain ⟨u, hu, e2⟩ := List.mem_map.1 hm
        obtain ⟨q, hq⟩ := List.getElem?_of_mem hu
        exact hno q u (by have := (List.getElem?_eq_some_iff.1 hq).1; omega) hq e2
      have HZ := Lib.hid hz
      clear hz
      go_wp2
      go_ret
      exact ⟨by rw [HZ.out]; rfl, oR.drop, kR⟩

theorem alRow {fn : Func} (h : fn.results = #[.cell 2 30]) {tmps : Array Value} {p : Nat} {x y : Value} (hp : tmps.getD 2 undef = .pointer (some ⟨p, 0, none⟩))
    (o : Own w (cel p 30 [x, y] :: R)) : (results fn tmps).run Try.prog w = .ok (.agg #[x, y]) w :=
  results_cell_row h _ _ p _ _ _ _ hp o.blk Try.underlying30 rfl (by kernel_rfl)
def AlPost (W : World) (cb K : Nat) (R : List SP) (w : World) (e : Ending) (w' : World) : Prop :=
  ∃ nu de : Nat, AlOk nu de ∧ Ret (.agg #[.int .i64 (nu : Int), .int .i64 (de : Int)]) (Ch W cb (K + 1) :: old W :: R) w e w'
set_option maxHeartbeats 1600000 in
set_option maxRecDepth 100000 in
theorem alpha_spec (hK : K ≤ 800000000) (o : Own w (Ch W cb K :: old W :: R)) :
    Calls Try.prog 11 #[.pointer (some ⟨cb, 0, none⟩)] w (AlPost W cb K R w) := by
  have oA := (o.alloc (.cells #[.int .i64 0, .int .i64 0] 30)).alloc (.cells #[.int .i64 1, .int .i64 2, .int .i64 9, .int .i64 10, .int .i64 1, .int .i64 10, .int .i64 2, .int .i64 3, .int .i64 1048575, .int .i64 1048576, .int .i64 1, .int .i64 1048576] 30)
  simp only [World.size_alloc] at oA
  go_enter Try.func11, Try.ntmps11
  go_wp2_with fail
  refine (next_spec W cb K 6 _ _ (by omega) (by omega) (by omega) (oA.re [2, 3, 0, 1])).mono ?_
  rintro e1 w1 ⟨x, hx0, hx1, rfl, o1, k1⟩
  obtain ⟨j, rfl⟩ : ∃ j : Nat, x = (j : Int) := ⟨x.toNat, by omega⟩
  have key : ∃ nu de : Nat, AlOk nu de ∧ w1.cell? ⟨w.heap.size + 1, j * 2, none⟩ = some (.int .i64 (nu : Int)) ∧ w1.cell? ⟨w.heap.size + 1, j * 2 + 1, none⟩ = some (.int .i64 (de : Int)) := by
    have hj : j = 0 ∨ j = 1 ∨ j = 2 ∨ j = 3 ∨ j = 4 ∨ j = 5 := by omega
    rcases hj with rfl | rfl | rfl | rfl | rfl | rfl
    · exact ⟨1, 2, ⟨by decide, by decide, by decide⟩, Own.cell (T := 30) (vs := [.int .i64 1, .int .i64 2, .int .i64 9, .int .i64 10, .int .i64 1, .int .i64 10, .int .i64 2, .int .i64 3, .int .i64 1048575, .int .i64 1048576, .int .i64 1, .int .i64 1048576]) (o1.up 2) 0, Own.cell (T := 30) (vs := [.int .i64 1, .int .i64 2, .int .i64 9, .int .i64 10, .int .i64 1, .int .i64 10, .int .i64 2, .int .i64 3, .int .i64 1048575, .int .i64 1048576, .int .i64 1, .int .i64 1048576]) (o1.up 2) 1⟩
    · exact ⟨9, 10, ⟨by decide, by decide, by decide⟩, Own.cell (T := 30) (vs := [.int .i64 1, .int .i64 2, .int .i64 9, .int .i64 10, .int .i64 1, .int .i64 10, .int .i64 2, .int .i64 3, .int .i64 1048575, .int .i64 1048576, .int .i64 1, .int .i64 1048576]) (o1.up 2) 2, Own.cell (T := 30) (vs := [.int .i64 1, .int .i64 2, .int .i64 9, .int .i64 10, .int .i64 1, .int .i64 10, .int .i64 2, .int .i64 3, .int .i64 1048575, .int .i64 1048576, .int .i64 1, .int .i64 1048576]) (o1.up 2) 3⟩
    · exact ⟨1, 10, ⟨by decide, by decide, by decide⟩, Own.cell (T := 30) (vs := [.int .i64 1, .int .i64 2, .int .i64 9, .int .i64 10, .int .i64 1, .int .i64 10, .int .i64 2, .int .i64 3, .int .i64 1048575, .int .i64 1048576, .int .i64 1, .int .i64 1048576]) (o1.up 2) 4, Own.cell (T := 30) (vs := [.int .i64 1, .int .i64 2, .int .i64 9, .int .i64 10, .int .i64 1, .int .i64 10, .int .i64 2, .int .i64 3, .int .i64 1048575, .int .i64 1048576, .int .i64 1, .int .i64 1048576]) (o1.up 2) 5⟩
    · exact ⟨2, 3, ⟨by decide, by decide, by decide⟩, Own.cell (T := 30) (vs := [.int .i64 1, .int .i64 2, .int .i64 9, .int .i64 10, .int .i64 1, .int .i64 10, .int .i64 2, .int .i64 3, .int .i64 1048575, .int .i64 1048576, .int .i64 1, .int .i64 1048576]) (o1.up 2) 6, Own.cell (T := 30) (vs := [.int .i64 1, .int .i64 2, .int .i64 9, .int .i64 10, .int .i64 1, .int .i64 10, .int .i64 2, .int .i64 3, .int .i64 1048575, .int .i64 1048576, .int .i64 1, .int .i64 1048576]) (o1.up 2) 7⟩
    · exact ⟨1048575, 1048576, ⟨by decide, by decide, by decide⟩, Own.cell (T := 30) (vs := [.int .i64 1, .int .i64 2, .int .i64 9, .int .i64 10, .int .i64 1, .int .i64 10, .int .i64 2, .int .i64 3, .int .i64 1048575, .int .i64 1048576, .int .i64 1, .int .i64 1048576]) (o1.up 2) 8, Own.cell (T := 30) (vs := [.int .i64 1, .int .i64 2, .int .i64 9, .int .i64 10, .int .i64 1, .int .i64 10, .int .i64 2, .int .i64 3, .int .i64 1048575, .int .i64 1048576, .int .i64 1, .int .i64 1048576]) (o1.up 2) 9⟩
    · exact ⟨1, 1048576, ⟨by decide, by decide, by decide⟩, Own.cell (T := 30) (vs := [.int .i64 1, .int .i64 2, .int .i64 9, .int .i64 10, .int .i64 1, .int .i64 10, .int .i64 2, .int .i64 3, .int .i64 1048575, .int .i64 1048576, .int .i64 1, .int .i64 1048576]) (o1.up 2) 10, Own.cell (T := 30) (vs := [.int .i64 1, .int .i64 2, .int .i64 9, .int .i64 10, .int .i64 1, .int .i64 10, .int .i64 2, .int .i64 3, .int .i64 1048575, .int .i64 1048576, .int .i64 1, .int .i64 1048576]) (o1.up 2) 11⟩
  obtain ⟨nu, de, hA, d0, d1⟩ := key
  have z0 := Own.cell (T := 30) (vs := [.int .i64 0, .int .i64 0]) (o1.up 3) 0
  have z1 := Own.cell (T := 30) (vs := [.int .i64 0, .int .i64 0]) (o1.up 3) 1
  have zf := Own.frozen (T := 30) (vs := [.int .i64 0, .int .i64 0]) (o1.up 3)
  have zl := Own.celLt (T := 30) (vs := [.int .i64 0, .int .i64 0]) (o1.up 3)
  have oZ : Own _ (cel w.heap.size 30 [.int .i64 (nu : Int), .int .i64 (de : Int)] :: _) := (Own.setCell (T := 30) (vs := [.int .i64 0, .int .i64 0]) (o1.up 3) 0 (.int .i64 (nu : Int))).setCell 1 (.int .i64 (de : Int))
  go_wp2
  refine bodyPost_ret (v := .agg #[.int .i64 (nu : Int), .int .i64 (de : Int)]) ?_ rfl ?_
  · exact alRow (p := w.heap.size) rfl rfl oZ
  · exact ⟨nu, de, hA, rfl, oZ.re [0, 3] 2, qcalm_set (qcalm_set ((qcalm_alloc (qcalm_alloc (Calm.refl w))).trans k1))⟩
end
end Go.Proofs.Ytkmlkpfabkhleaa

/- Cifq: the beginning of the laws. -/
namespace Go.Proofs.Ytkmlkpfabkhleaa
open Go.RowKit
open SP
section
variable {W w w' : World} {R : List SP} {b N cb K : Nat} {num den reb : Int} {s : Cq} {Sp : SP}

theorem Try.intTq : ElemT Try.prog 22 3 1 8 := ElemT.mk' (z := .int .i64 0) Try.underlying22 (by kernel_rfl) rfl (by decide)
theorem rebAt {x : Int} (h0 : 0 ≤ x) (h1 : x < 2) : ∃ (j : Nat) (rb : Int), x = (j : Int) ∧ (j < 2) ∧ (rb = 1048576 ∨ rb = 1073741824) ∧ ∀ (w' : World) (g : Nat) (R' : List SP), Own w' (cel g 2 [.int .i64 1048576, .int .i64 1073741824] :: R') → w'.cell? ⟨g, j, none⟩ = some (.int .i64 rb) := by
  have : x = 0 ∨ x = 1 := by omega
  rcases this with rfl | rfl
  · exact ⟨0, _, rfl, by omega, .inl rfl, fun w' g R' o => o.cell 0⟩
  · exact ⟨1, _, rfl, by omega, .inr rfl, fun w' g R' o => o.cell 1⟩
theorem wt4At {x : Int} (h0 : 0 ≤ x) (h1 : x < 4) : ∃ (j : Nat) (y : Int), x = (j : Int) ∧ (j < 4) ∧ (y = 1 ∨ y = 2 ∨ y = 4) ∧ ∀ (w' : World) (g : Nat) (R' : List SP), Own w' (cel g 3 [.int .i64 1, .int .i64 2, .int .i64 1, .int .i64 4] :: R') → w'.cell? ⟨g, j, none⟩ = some (.int .i64 y) := by
  have : x = 0 ∨ x = 1 ∨ x = 2 ∨ x = 3 := by omega
  rcases this with rfl | rfl | rfl | rfl
  · exact ⟨0, 1, rfl, by omega, .inl rfl, fun w' g R' o => o.cell 0⟩
  · exact ⟨1, 2, rfl, by omega, .inr (.inl rfl), fun w' g R' o => o.cell 1⟩
  · exact ⟨2, 1, rfl, by omega, .inl rfl, fun w' g R' o => o.cell 2⟩
  · exact ⟨3, 4, rfl, by omega, .inr (.inr rfl), fun w' g R' o => o.cell 3⟩
theorem results_tmp4 {fn : Func} {t u v x : Tmp} (h : fn.results = #[.tmp t, .tmp u, .tmp v, .tmp x]) (tmps : Array Value) (P : Program) (w : World) :
    (results fn tmps).run P w = .ok (.tuple #[tmps.getD t undef, tmps.getD u undef, tmps.getD v undef, tmps.getD x undef]) w := by
  simp [results, h]
def idI (n : Nat) : List Int := (List.range n).map fun (k : Nat) => (k : Int)
theorem idI_len (n : Nat) : (idI n).length = n := by unfold idI; simp
theorem idI_snoc (n : Nat) : idI (n + 1) = idI n ++ [(n : Int)] := by unfold idI; rw [List.range_succ, List.map_append]; rfl
def WtOk (ws : List Int) : Prop := ∀ w ∈ ws, w = 1 ∨ w = 2 ∨ w = 4
def StRel (W : World) (b cb K n : Nat) (num den reb : Int) (R : List SP) (w : World) (v12 v13 v14 : Value) (wr : World) : Prop :=
  ∃ (i : Nat) (ws : List Int) (a1 a2 : Option Addr) (c1 c2 : Nat), v14 = .int .i64 (i : Int) ∧ ws.length = i ∧ i ≤ n ∧ WtOk ws ∧ v12 = .slice a1 i c1 ∧ v13 = .slice a2 i c2 ∧
    Own wr (slc 3 1 a1 i c1 ((idI i).map (Value.int .i64)) :: slc 3 1 a2 i c2 (ws.map (Value.int .i64)) :: CqF b num den reb 0 (stW ws) :: Ch W cb (K + 1 + i) :: old W :: R) ∧ Calm w wr
def StartPost (W : World) (cb K n : Nat) (num den : Int) (R : List SP) (w : World) (e : Ending) (w' : World) : Prop :=
  ∃ (b : Nat) (reb : Int) (ws : List Int) (a1 a2 : Option Addr) (c1 c2 : Nat), (reb = 1048576 ∨ reb = 1073741824) ∧ ws.length = n ∧ WtOk ws ∧
    Ret (.tuple #[.pointer (some ⟨b, 0, none⟩), .slice a1 n c1, .slice a2 n c2, .bool true])
      (slc 3 1 a1 n c1 ((idI n).map (Value.int .i64)) :: slc 3 1 a2 n c2 (ws.map (Value.int .i64)) :: CqF b num den reb 0 (stW ws) :: Ch W cb (K + 1 + n) :: old W :: R) w e w'

set_option maxHeartbeats 6400000 in
set_option maxRecDepth 100000 in
theorem start_spec {nu de n : Nat} (hA : AlOk nu de) (hn : n ≤ 5) (hK : K ≤ 800000000) (o : Own w (Ch W cb K :: old W :: R)) :
    Calls Try.prog 9 #[.pointer (some ⟨cb, 0, none⟩), .int .i64 (n : Int), .agg #[.int .i64 (nu : Int), .int .i64 (de : Int)]] w (StartPost W cb K n (nu : Int) (de : Int) R w) := by
  have oA := o.alloc (.cells #[.int .i64 (nu : Int), .int .i64 (de : Int)] 30)
  have q0 := Own.cell (T := 30) (vs := [.int .i64 (nu : Int), .int .i64 (de : Int)]) oA 0
  have q1 := Own.cell (T := 30) (vs := [.int .i64 (nu : Int), .int .i64 (de : Int)]) oA 1
  go_enter Try.func9, Try.ntmps9
  go_upto_region 1 with fail
  go_cut [10, 11] (fun v10 v11 wc => ∃ (b : Nat) (reb : Int), (reb = 1048576 ∨ reb = 1073741824) ∧ v10 = .pointer (some ⟨b, 0, none⟩) ∧ v11 = .int .i64 0 ∧ Own wc (CqF b (nu : Int) (de : Int) reb 0 cq0 :: Ch W cb (K + 1) :: old W :: R) ∧ Calm w wc)
  case first =>
    have oN1 := oA.drew.re [1, 2, 0]
    have oB := oA.alloc (.cells #[.int .i64 1048576, .int .i64 1073741824] 2)
    simp only [World.size_alloc] at oB
    have oN2 := oB.drew.re [2, 3, 0, 1]
    have u0 := Own.cell (T := 30) (vs := [.int .i64 (nu : Int), .int .i64 (de : Int)]) (oB.up 1) 0
    have u1 := Own.cell (T := 30) (vs := [.int .i64 (nu : Int), .int .i64 (de : Int)]) (oB.up 1) 1
    go_region_with (first
      | (go_at_call 10; (with_reducible refine (next_spec W cb K 2 _ _ (by omega) (by omega) (by omega) oN1).mono ?_); rintro e2 w2 ⟨y, hy0, hy1, rfl, o3, k3⟩; obtain ⟨j, rb, rfl, hj, hrb, hcell⟩ := rebAt hy0 hy1; have x0 := Own.cell (T := 30) (vs := [.int .i64 (nu : Int), .int .i64 (de : Int)]) (o3.up 2) 0; have x1 := Own.cell (T := 30) (vs := [.int .i64 (nu : Int), .int .i64 (de : Int)]) (o3.up 2) 1; have oY := o3.alloc (.cells #[.int .i64 1048576, .int .i64 1073741824] 2); have yc := hcell _ _ _ oY; have y0 := Own.cell (T := 30) (vs := [.int .i64 (nu : Int), .int .i64 (de : Int)]) (oY.up 3) 0; have y1 := Own.cell (T := 30) (vs := [.int .i64 (nu : Int), .int .i64 (de : Int)]) (oY.up 3) 1)
      | (go_at_call 10; (with_reducible refine (next_spec W cb K 2 _ _ (by omega) (by omega) (by omega) oN2).mono ?_); rintro e2 w2 ⟨y, hy0, hy1, rfl, oY, k3⟩; obtain ⟨j, rb, rfl, hj, hrb, hcell⟩ := rebAt hy0 hy1; have yc := hcell _ _ _ (oY.up 2); have y0 := Own.cell (T := 30) (vs := [.int .i64 (nu : Int), .int .i64 (de : Int)]) (oY.up 3) 0; have y1 := Own.cell (T := 30) (vs := [.int .i64 (nu : Int), .int .i64 (de : Int)]) (oY.up 3) 1)
      | (go_at_call 28; (with_reducible refine (cqNew_spec hA rb (by omega) (by omega) oY).mono ?_); rintro e4 w4 ⟨b, rfl, o4, k4⟩; have z0 := Own.cell (T := 30) (vs := [.int .i64 (nu : Int), .int .i64 (de : Int)]) (o4.up 4) 0; have z1 := Own.cell (T := 30) (vs := [.int .i64 (nu : Int), .int .i64 (de : Int)]) (o4.up 4) 1))
    all_goals go_wp2
    all_goals go_meet
    all_goals first
      | exact ⟨b, rb, hrb, rfl, rfl, o4.re [1, 4] 2, ((qcalm_drew (qcalm_alloc (Calm.refl w))).trans k3).trans ((qcalm_alloc (Calm.refl w2)).trans k4)⟩
      | exact ⟨b, rb, hrb, rfl, rfl, o4.re [3, 4] 2, ((qcalm_drew (qcalm_alloc (qcalm_alloc (Calm.refl w)))).trans k3).trans k4⟩
  case rest =>
    obtain ⟨b, reb, hreb, rfl, rfl, oS, kS⟩ := hcut
    have e0 : (stW [] : Cq) = cq0 := rfl
    have hT : StRel W b cb K n (nu : Int) (de : Int) reb R w (.slice none 0 0) (.slice none 0 0) (.int .i64 0) wc := ⟨0, [], none, none, 0, 0, rfl, rfl, by omega, by simp [WtOk], rfl, rfl, Own.slc_nil (Own.slc_nil oS), kS⟩
    clear oS kS oA q0 q1 o e0
    go_wp2
    go_loopw [12, 13, 14] (fun v12 v13 v14 wr => StRel W b cb K n (nu : Int) (de : Int) reb R w v12 v13 v14 wr) (fun _ _ v _ => n - (Lib.intOf v).toNat)
    case atStart => exact hT
    case round =>
      clear hT
      obtain ⟨i, ws, a1, a2, c1, c2, rfl, hws, hi5, hwt, rfl, rfl, oR, kR⟩ := hrel
      by_cases hlt : i < n
      · have oB := oR.alloc (.cells #[.int .i64 (i : Int)] 3)
        have HWS := Lib.hid hws
        have HWT := Lib.hid hwt
        clear hws hwt
        go_wp2_with (at_builtin; refine wpList_append_slc rfl _ _ rfl Try.intTq rfl (oB.up 1) ⟨wr.heap.size, 0, none⟩ 1 1 [.int .i64 (i : Int)] rfl rfl ?c1 ?c2 ?c3 ?c4 ?c5)
        case c1 => exact Own.news (T := 3) oB
        case c2 => intro u hu; simp at hu; subst hu; rfl
        case c3 => unfold maxLen; omega
        case c4 => omega
        case c5 =>
        intro a3 c3 w5 o5 k5
        have oC := o5.alloc (.cells #[.int .i64 1, .int .i64 2, .int .i64 1, .int .i64 4] 3)
        go_wp2_with fail
        refine (next_spec W cb (K + 1 + i) 4 _ _ (by omega) (by omega) (by omega) (oC.re [5, 6, 0, 1, 2, 3, 4])).mono ?_
        rintro e6 w6 ⟨y, hy0, hy1, rfl, o6, k6⟩
        obtain ⟨j, x, rfl, hj, hx, hcell⟩ := wt4At hy0 hy1
        have d0 := hcell _ _ _ (o6.up 2)
        have oD := o6.alloc (.cells #[.int .i64 x] 3)
        clear hcell
        go_wp2_with (at_builtin; refine wpList_append_slc rfl _ _ rfl Try.intTq rfl (oD.up 6) ⟨w6.heap.size, 0, none⟩ 1 1 [.int .i64 x] rfl rfl ?d1 ?d2 ?d3 ?d4 ?d5)
        case d1 => exact Own.news (T := 3) oD
        case d2 => intro u hu; simp at hu; subst hu; rfl
        case d3 => unfold maxLen; omega
        case d4 => omega
        case d5 =>
        intro a4 c4 w7 o7 k7
        have K7 : Calm w w7 := kR.trans (((qcalm_alloc (Calm.refl wr)).trans k5).trans (((qcalm_alloc (Calm.refl w5)).trans k6).trans ((qcalm_alloc (Calm.refl w6)).trans k7)))
        obtain ⟨g, rfl, hc, _, _⟩ := o7.slc_cell (by omega)
        have e0 := hc i (.int .i64 x) (by rw [List.getElem?_append_right (by rw [List.length_map, HWS.out]; exact Nat.le_refl _), List.length_map, HWS.out, Nat.sub_self]; rfl)
        obtain ⟨j1, j2⟩ := stW_join (ws := ws) (w := x) (by have := HWS.out; omega) (by omega) (by omega)
        have j3 := (CqInv.join (stW_inv i ws HWS.out (by omega) (fun u hu => by have := HWT.out u hu; omega)) j1).1
        have hjo := cqJoin_ok (ws.length : Int) x j1 j3 (o7.re [7])
        unfold joinC at j2
        rw [j2, HWS.out] at hjo
        clear j1 j2 j3 hc o5 oB oC o6 oD d0 k5 k6 k7 oR kR
        go_wp2_with fail
        refine hjo.mono ?_
        rintro e8 w8 ⟨rfl, o8, k8⟩
        clear hjo e0
        have o9 := o8.re [2, 5, 7, 6, 1, 0, 3, 4] 3
        have m1 : (idI i).map (Value.int .i64) ++ [.int .i64 (i : Int)] = (idI (i + 1)).map (Value.int .i64) := by rw [idI_snoc, List.map_append]; rfl
        have m2 : ws.map (Value.int .i64) ++ [.int .i64 x] = (ws ++ [x]).map (Value.int .i64) := by rw [List.map_append]; rfl
        rw [m1, m2] at o9
        go_wp2
        go_roundw
        case rel => exact ⟨i + 1, ws ++ [x], a3, some ⟨g, 0, none⟩, c3, c4, by go_num, by rw [List.length_append, HWS.out]; rfl, by omega, fun u hu => by
          rcases List.mem_append.1 hu with hu | hu
          · exact HWT.out u hu
          · have : u = x := by simpa using hu
            subst this; exact hx, rfl, rfl, o9, K7.trans k8⟩
        case measure => simp [Lib.intOf]; omega
      · have hin : i = n := by omega
        subst hin
        go_wp2
        refine bodyPost_ret (v := .tuple #[.pointer (some ⟨b, 0, none⟩), .slice a1 i c1, .slice a2 i c2, .bool true]) (results_tmp4 Try.results9 _ _ _) rfl ?_
        exact ⟨b, reb, ws, a1, a2, c1, c2, hreb, hws, hwt, rfl, oR, kR⟩
end
end Go.Proofs.Ytkmlkpfabkhleaa

/- Cifq: the example of chapter 24. -/
namespace Go.Proofs.Ytkmlkpfabkhleaa
open Go.RowKit
open SP
section
variable {W w w' : World} {R : List SP} {b N cb K : Nat} {num den reb : Int} {s : Cq} {Sp : SP}

theorem cqSumF_spec (hN : (N : Int) ≤ 1000000000000) (o : Own w (CqF b num den reb N s :: R)) :
    Calls Try.prog 44 #[.pointer (some ⟨b, 0, none⟩)] w (Ret (.int .i64 (sumS s.D)) (CqF b num den reb N s :: R) w) := by
  obtain ⟨rp, lp, cp, xp, nb, o1⟩ := CqF.iff.1 o
  refine (cqSum_spec hN (o1.re [0, 2])).mono ?_
  rintro e w' ⟨rfl, o2, k2⟩
  exact ⟨rfl, CqF.iff.2 ⟨rp, lp, cp, xp, nb, o2.re [0, 2, 1]⟩, k2⟩
theorem awStep {k : Nat} (hk : k < 4) {g c : Nat} (o : Own w (CqF b 1 2 1099511627776 k (awS k) :: slc 41 3 (some ⟨g, 0, none⟩) 2 c (flat headC (awH k)) :: R)) :
    Calls Try.prog 12 #[.pointer (some ⟨b, 0, none⟩), .slice (some ⟨g, 0, none⟩) 2 c] w
      (Ret (.tuple #[chV (awC k), .int .i64 0]) (CqF b 1 2 1099511627776 (k + 1) (awS (k + 1)) :: slc 41 3 (some ⟨g, 0, none⟩) 2 c (flat headC (awH k)) :: R) w) := by
  obtain ⟨h1, h2⟩ := aw_step hk
  have := cqStep_ok (nu := 1) (de := 2) (reb := 1099511627776) (aw_inv k (by omega)) (by omega) (by omega) (by omega) ⟨by decide, by decide, by decide⟩ (c := c) (headsAt_slc (some ⟨g, 0, none⟩) 2 c (awH k) (by cases k <;> rfl)) (by cases k <;> rfl) h1 (by cases k <;> simp [awH]) o
  rw [show (((1 : Nat) : Int)) = 1 from rfl, show (((2 : Nat) : Int)) = 2 from rfl, h2] at this
  exact this

set_option maxHeartbeats 6400000 in
set_option maxRecDepth 100000 in
theorem awake24_spec (o : Own w R) : Calls Try.prog 15 #[] w (Ret (.bool true) R w) := by
  have hA : AlOk 1 2 := ⟨by decide, by decide, by decide⟩
  go_enter Try.func15, Try.ntmps15
  go_wp2_with fail
  refine (cqNew_spec (nu := 1) (de := 2) hA 1099511627776 (by decide) (by decide) o).mono ?_
  rintro e1 w1 ⟨b, rfl, o1, k1⟩
  have j1 := stW_join (ws := []) (w := 1) (by decide) (by decide) (by decide)
  have i1 := (CqInv.join (stW_inv 0 [] rfl (by omega) (by simp)) j1.1).1
  have hj := cqJoin_ok (s := stW []) 0 1 j1.1 i1 o1
  have e1 := j1.2
  unfold joinC at e1
  change _ = stW [1] at e1
  change ({ stW [] with R := joinS (stW []).R 0 1, D := (nJoin (stW []).D 0 1).2 } : Cq) = stW [1] at e1
  rw [e1] at hj
  clear j1 i1 e1
  go_wp2_with fail
  refine hj.mono ?_
  rintro e2 w2 ⟨rfl, o2, k2⟩
  clear hj
  have j1 := stW_join (ws := [1]) (w := 1) (by decide) (by decide) (by decide)
  have i1 := (CqInv.join (stW_inv 1 [1] rfl (by omega) (by simp)) j1.1).1
  have hj := cqJoin_ok (s := stW [1]) 1 1 j1.1 i1 o2
  have e1 := j1.2
  unfold joinC at e1
  change ({ stW [1] with R := joinS (stW [1]).R 1 1, D := (nJoin (stW [1]).D 1 1).2 } : Cq) = stW [1, 1] at e1
  rw [e1] at hj
  clear j1 i1 e1
  go_wp2_with fail
  refine hj.mono ?_
  rintro e3 w3 ⟨rfl, o3, k3⟩
  clear hj
  have oH := o3.alloc (.cells #[.int .i64 0, .int .i64 100, .bool false, .int .i64 1, .int .i64 100, .bool true] 41)
  have oI := slc_new (size := 3) (n := 2) oH rfl (by omega)
  have oI' := oI.re [1, 0]
  have hs : Calls Try.prog 12 #[.pointer (some ⟨b, 0, none⟩), .slice (some ⟨w3.heap.size, 0, none⟩) 2 2] _ (Ret (.tuple #[.agg #[.int .i64 0, .int .i64 1, .int .i64 4], .int .i64 0]) (CqF b 1 2 1099511627776 1 (awS 1) :: _) _) := awStep (k := 0) (by decide) (oI.re [1, 0])
  clear oI'
  go_wp2_with fail
  refine hs.mono ?_
  rintro e4 w4 ⟨rfl, o4, k4⟩
  clear hs
  have oJ := o4.alloc (.cells #[.int .i64 0, .int .i64 1, .int .i64 4] 33)
  have oK := oJ.alloc (.cells #[.int .i64 0, .int .i64 100, .bool true, .int .i64 1, .int .i64 100, .bool true] 41)
  simp only [World.size_alloc] at oK
  have oL := slc_new (size := 3) (n := 2) oK rfl (by omega)
  have hs : Calls Try.prog 12 #[.pointer (some ⟨b, 0, none⟩), .slice (some ⟨w4.heap.size + 1, 0, none⟩) 2 2] _ (Ret (.tuple #[.agg #[.int .i64 1, .int .i64 1, .int .i64 1], .int .i64 0]) (CqF b 1 2 1099511627776 2 (awS 2) :: _) _) := awStep (k := 1) (by decide) (oL.re [2, 0])
  go_wp2_with fail
  refine hs.mono ?_
  rintro e5 w5 ⟨rfl, o5, k5⟩
  clear hs
  have oM := o5.alloc (.cells #[.int .i64 1, .int .i64 1, .int .i64 1] 33)
  have hs : Calls Try.prog 12 #[.pointer (some ⟨b, 0, none⟩), .slice (some ⟨w4.heap.size + 1, 0, none⟩) 2 2] _ (Ret (.tuple #[.agg #[.int .i64 0, .int .i64 0, .int .i64 1], .int .i64 0]) (CqF b 1 2 1099511627776 3 (awS 3) :: _) _) := awStep (k := 2) (by decide) (oM.re [1, 2])
  go_wp2_with fail
  refine hs.mono ?_
  rintro e6 w6 ⟨rfl, o6, k6⟩
  clear hs
  have oN := o6.alloc (.cells #[.int .i64 0, .int .i64 0, .int .i64 1] 33)
  have hs : Calls Try.prog 12 #[.pointer (some ⟨b, 0, none⟩), .slice (some ⟨w4.heap.size + 1, 0, none⟩) 2 2] _ (Ret (.tuple #[.agg #[.int .i64 1, .int .i64 0, .int .i64 2], .int .i64 0]) (CqF b 1 2 1099511627776 4 (awS 4) :: _) _) := awStep (k := 3) (by decide) (oN.re [1, 2])
  go_wp2_with fail
  refine hs.mono ?_
  rintro e7 w7 ⟨rfl, o7, k7⟩
  clear hs
  have oO := o7.alloc (.cells #[.int .i64 1, .int .i64 0, .int .i64 2] 33)
  have a0 := Own.cell (T := 33) (vs := [.int .i64 1, .int .i64 0, .int .i64 2]) (oO.up 0) 0
  have a1 := Own.cell (T := 33) (vs := [.int .i64 1, .int .i64 0, .int .i64 2]) (oO.up 0) 1
  have a2 := Own.cell (T := 33) (vs := [.int .i64 1, .int .i64 0, .int .i64 2]) (oO.up 0) 2
  have p0 := Own.cell (T := 33) (vs := [.int .i64 0, .int .i64 0, .int .i64 1]) (oO.up 3) 0
  have p1 := Own.cell (T := 33) (vs := [.int .i64 0, .int .i64 0, .int .i64 1]) (oO.up 3) 1
  have p2 := Own.cell (T := 33) (vs := [.int .i64 0, .int .i64 0, .int .i64 1]) (oO.up 3) 2
  have q0 := Own.cell (T := 33) (vs := [.int .i64 1, .int .i64 1, .int .i64 1]) (oO.up 4) 0
  have q1 := Own.cell (T := 33) (vs := [.int .i64 1, .int .i64 1, .int .i64 1]) (oO.up 4) 1
  have q2 := Own.cell (T := 33) (vs := [.int .i64 1, .int .i64 1, .int .i64 1]) (oO.up 4) 2
  have r0 := Own.cell (T := 33) (vs := [.int .i64 0, .int .i64 1, .int .i64 4]) (oO.up 5) 0
  have r1 := Own.cell (T := 33) (vs := [.int .i64 0, .int .i64 1, .int .i64 4]) (oO.up 5) 1
  have r2 := Own.cell (T := 33) (vs := [.int .i64 0, .int .i64 1, .int .i64 4]) (oO.up 5) 2
  have hsum := cqSumF_spec (by decide) (oO.re [1])
  rw [(aw_inv 4 (by omega)).sum] at hsum
  go_wp2_with fail
  refine hsum.mono ?_
  rintro e8 w8 ⟨rfl, o8, k8⟩
  go_wp2
  go_ret
  have K3 := k1.trans (k2.trans k3)
  have K4 := (qcalm_alloc (x := .cells #[.int .i64 0, .int .i64 100, .bool false, .int .i64 1, .int .i64 100, .bool true] 41) K3).trans k4
  have K5 := (qcalm_alloc (x := .cells #[.int .i64 0, .int .i64 100, .bool true, .int .i64 1, .int .i64 100, .bool true] 41) (qcalm_alloc (x := .cells #[.int .i64 0, .int .i64 1, .int .i64 4] 33) K4)).trans k5
  have K6 := (qcalm_alloc (x := .cells #[.int .i64 1, .int .i64 1, .int .i64 1] 33) K5).trans k6
  have K7 := (qcalm_alloc (x := .cells #[.int .i64 0, .int .i64 0, .int .i64 1] 33) K6).trans k7
  exact ⟨rfl, o8.dropN 7, (qcalm_alloc (x := .cells #[.int .i64 1, .int .i64 0, .int .i64 2] 33) K7).trans k8⟩
end
end Go.Proofs.Ytkmlkpfabkhleaa

/- Cifq, plain: the laws on lags that do not grow, and on slots without errors. -/
namespace Go.Proofs.Ytkmlkpfabkhleaa
open Go.RowKit
open SP
section
variable {i m N : Nat} {s : Cq} {num den reb : Int} {H : List Head}

theorem CqInv.next_pts (h : CqInv i m N s) (hi : i ≤ 299) (hN : N ≤ 1000000) (hf : fitsH s.R.L H = true) (hne : H ≠ []) : ptsOf (stepC num den reb s H).2.2.R.L = ptsOf s.R.L := by
  obtain ⟨f1, _⟩ := fits_facts hf
  have hL : s.R.L ≠ [] := fun e => by rw [e] at f1; simp at f1; exact hne f1
  obtain ⟨_, _, _, _, h5⟩ := h.step hi hN num den reb hf hne rfl rfl rfl
  rcases h5 with ⟨_, e, _⟩ | ⟨j, why, len, hc, _, _, _, l1, l2, _, e, _, _, _, _, _⟩
  · rw [e]
  · rw [e, hc]
    obtain ⟨_, _, _, h3⟩ := charge_tags h.t (by omega) hL l1 l2 reb
    exact h3
theorem ptsOf_flows {L M : List Tg} (h : ptsOf L = ptsOf M) : L.map (·.f) = M.map (·.f) := by rw [← ptsOf_f, ← ptsOf_f, h]
theorem fits_of {L : List Tg} {F : List Int} (h1 : L.map (·.f) = F) (h2 : H.map (·.f) = F) (h3 : ∀ h ∈ H, 1 ≤ h.len ∧ h.len ≤ 4096) : fitsH L H = true := by
  unfold fitsH
  rw [h1, h2, Bool.and_eq_true, decide_eq_true_eq, List.all_eq_true]
  exact ⟨rfl, fun x hx => by simpa using h3 x hx⟩
/-- The lag of a flow that can send and does not lead does not grow. -/
theorem CqInv.steady (h : CqInv i m N s) (hi : i ≤ 299) (hN : N ≤ 1000000) (hf : fitsH s.R.L H = true) (hne : H ≠ []) {f : Int} (hg : (headOf H f).good = true) (hl : 0 ≤ lagO s.D f) :
    lagO (stepC num den reb s H).2.2.D f ≤ lagO s.D f := by
  obtain ⟨f1, _⟩ := fits_facts hf
  have hL : s.R.L ≠ [] := fun e => by rw [e] at f1; simp at f1; exact hne f1
  obtain ⟨_, _, _, _, h5⟩ := h.step hi hN num den reb hf hne rfl rfl rfl
  rcases h5 with ⟨_, e, _⟩ | ⟨j, why, len, hc, _, _, _, l1, l2, _, e, _, _, q3, _, _⟩
  · rw [e]; exact Int.le_refl _
  · rw [e]
    show lagO (nMove s.D _ _ len).2 f ≤ _
    have hcc := hc
    rw [hc]
    dsimp only
    rw [lagO_move h.lg.ok q3 f]
    by_cases hk : f = (lst s.R.L).f
    · have hkj : j = (lst s.R.L).f := by
        unfold chooseC at hcc
        dsimp only at hcc
        rw [(selT_mem hL).1] at hcc
        dsimp only at hcc
        rw [← hk, hg] at hcc
        have hd : decide (lagO s.D f < 0) = false := by simpa using hl
        rw [hd] at hcc
        rw [if_pos (by simp)] at hcc
        have := congrArg Chc.sv hcc
        exact hk ▸ this.symm
      rw [if_pos hk, if_pos (by rw [hkj]; exact hk)]
      omega
    · rw [if_neg hk]
      split <;> omega
/-- Without errors and without lags. -/
theorem CqInv.good (h : CqInv i m N s) (hi : i ≤ 299) (hN : N ≤ 1000000) (hf : fitsH s.R.L H = true) (hne : H ≠ []) (hg : ∀ x ∈ H, x.good = true) (hl : ∀ f, lagO s.D f = 0) :
    (stepC num den reb s H).1 = ⟨(lst s.R.L).f, (lst s.R.L).f, 1⟩ ∧ ∀ f, lagO (stepC num den reb s H).2.2.D f = 0 := by
  obtain ⟨f1, _⟩ := fits_facts hf
  have hL : s.R.L ≠ [] := fun e => by rw [e] at f1; simp at f1; exact hne f1
  have hm := (selT_mem hL).2
  rw [← f1] at hm
  have hgk := hg _ (headOf_mem hm).1
  have hch : ∀ C X so, chooseC num den { s with C := C, X := X } H so = ⟨(lst s.R.L).f, (lst s.R.L).f, 1⟩ := fun C X so => by
    unfold chooseC
    dsimp only
    rw [(selT_mem hL).1]
    dsimp only
    rw [hgk, hl, if_pos (by simp)]
  obtain ⟨_, _, _, _, h5⟩ := h.step hi hN num den reb hf hne rfl rfl rfl
  rcases h5 with ⟨hc, _, _⟩ | ⟨j, why, len, hc, _, _, _, l1, l2, _, e, _, _, q3, _, _⟩
  · rw [hch] at hc
    cases congrArg Chc.why hc
  · rw [hch] at hc e
    have hj : j = (lst s.R.L).f := (congrArg Chc.sv hc).symm
    refine ⟨by rw [e], fun f => ?_⟩
    rw [e]
    show lagO (nMove s.D (lst s.R.L).f (lst s.R.L).f len).2 f = 0
    rw [hj] at q3
    rw [lagO_move h.lg.ok q3 f, hl]
    omega
end
end Go.Proofs.Ytkmlkpfabkhleaa

/- Cifq, plain: a lagging flow catches up within the closed form. -/
namespace Go.Proofs.Ytkmlkpfabkhleaa
open Go.RowKit
open SP

/-- A slot that serves, by lookups. -/
structure SlotF (num den : Int) (s s' : Cq) (C : Ord) (k j why len wk : Int) : Prop where
  rl : ∃ by_ : Int, (∀ f ∈ s.R.L.map (·.f), lagO s'.R.L f = (if f = k then lagO s.R.L f + cst len wk else lagO s.R.L f) - by_) ∧ s'.R.tm = lagO s.R.L k - by_
  pt : ptsOf s'.R.L = ptsOf s.R.L
  d : ∀ f, lagO s'.D f = lagO s.D f + (if f = k then len else 0) - (if f = j then len else 0)
  n : ∀ f, cntO s'.n f = if lagO s'.D f < 0 then (if countC num den s ⟨k, j, why⟩ = true ∧ f = k then ((cntO s.n k).1 + len, if k = j then (cntO s.n k).2 + len else (cntO s.n k).2) else cntO s.n f) else (0, 0)
  co : (why = 2 ∨ why = 3) → ∃ wt by_ : Int, mget C.el j = some wt ∧ 0 ≤ by_ ∧ by_ ≤ tget C.tg j ∧ C.tm ≤ tget C.tg j ∧ (∀ p ∈ C.el, tget C.tg j ≤ tget C.tg p.1) ∧ s'.C.tm = tget C.tg j - by_ ∧
    ∀ g, tget s'.C.tg g = max ((if g = j then tget C.tg j + cst len wt else tget C.tg g) - by_) 0
  cn : ¬ (why = 2 ∨ why = 3) → s'.C = C
  own : why = 1 → j = k
  kw : (k, wk) ∈ ptsOf s.R.L
  kmin : ∀ f ∈ s.R.L.map (·.f), lagO s.R.L k ≤ lagO s.R.L f
section
variable {i m N : Nat} {s : Cq} {num den reb : Int} {H : List Head}

theorem CqInv.slot (h : CqInv i m N s) (hi : i ≤ 299) (hN : N ≤ 1000000) (num den reb : Int) (hf : fitsH s.R.L H = true) (hne : H ≠ []) {c : Chc}
    (hc : chooseC num den { s with C := eligO s.C (lagH s.D H), X := eligO s.X (allH s.D H) } H (!(allH s.D H).isEmpty) = c) (hid : c ≠ chIdle) :
    ∃ len wk, c.ch = (lst s.R.L).f ∧ (∃ x ∈ H, x.len = len) ∧ 1 ≤ len ∧ len ≤ 4096 ∧ (stepC num den reb s H).1 = c ∧ SlotF num den s (stepC num den reb s H).2.2 (eligO s.C (lagH s.D H)) c.ch c.sv c.why len wk := by
  obtain ⟨f1, _⟩ := fits_facts hf
  have hL : s.R.L ≠ [] := fun e => by rw [e] at f1; simp at f1; exact hne f1
  obtain ⟨oC, _, _, _, h5⟩ := h.step hi hN num den reb hf hne rfl rfl hc
  rcases h5 with ⟨e, _⟩ | ⟨j, why, len, hcc, hj0, hlen, hjH, l1, l2, hway, e, q1, q2, q3, _, _⟩
  · exact absurd e hid
  · subst hcc
    obtain ⟨by_, r1, r2, r3⟩ := charge_tags h.t (by omega) hL l1 l2 reb
    have hls : lagO s.R.L (lst s.R.L).f = (lst s.R.L).s := lagO_get (fget_mem h.t.ok.ok (lst_mem hL))
    refine ⟨len, (lst s.R.L).w, rfl, ?_, l1, l2, by rw [e], ?_⟩
    · have hm : j ∈ H.map (·.f) := by obtain ⟨x, hx, rfl⟩ := hjH; exact List.mem_map.2 ⟨x, hx, rfl⟩
      exact ⟨_, (headOf_mem hm).1, hlen⟩
    · rw [e]
      refine ⟨⟨by_, r1, by rw [hls]; exact r2⟩, r3, fun f => lagO_move h.lg.ok q3 f, fun f => ?_, fun hw => ?_, fun hw => ?_, fun hw => ?_, ?_, fun f hf => ?_⟩
      · show cntO (resetC (nMove s.D (lst s.R.L).f j len).2 _) f = _
        rw [cnt_next]
        show _ = if lagO (nMove s.D (lst s.R.L).f j len).2 f < 0 then _ else _
        split
        · by_cases hcb : countC num den s ⟨(lst s.R.L).f, j, why⟩ = true
          · rw [if_pos hcb, cnt_bump]
            dsimp only
            by_cases hfk : f = (lst s.R.L).f
            · rw [if_pos hfk]; exact (if_pos (And.intro hcb hfk)).symm
            · rw [if_neg hfk]; exact (if_neg fun h => hfk h.2).symm
          · rw [if_neg hcb]; exact (if_neg fun h => hcb h.1).symm
        · rfl
      · have hjl : j = leastF (eligO s.C (lagH s.D H)).el (eligO s.C (lagH s.D H)).tg := by
          rcases hway with ⟨hw1, _⟩ | ⟨_, hj⟩ | ⟨hw1, _⟩
          · dsimp only at hw; omega
          · exact hj
          · dsimp only at hw; omega
        obtain ⟨wt, g1, g2, g3, g4, g5, g6, g7, g8, by2, b1, b2, b3, b4, b5⟩ := oC.serv (by omega) reb hjl hj0 l1 l2
        refine ⟨wt, by2, g1, b1, b2, g8, g7, ?_, ?_⟩
        · show (servC reb _ _ ⟨_, j, why⟩ len).2.1.tm = _
          unfold servC
          rw [if_pos hw]; exact b4
        · intro g
          show tget (servC reb _ _ ⟨_, j, why⟩ len).2.1.tg g = _
          unfold servC
          rw [if_pos hw]; exact b5 g
      · show (servC reb _ _ ⟨_, j, why⟩ len).2.1 = _
        unfold servC
        rw [if_neg hw]
        split <;> rfl
      · dsimp only at hw ⊢
        rcases hway with ⟨_, hj⟩ | ⟨hw1, _⟩ | ⟨hw1, _⟩
        · exact hj
        · omega
        · omega
      · unfold ptsOf
        exact List.mem_map.2 ⟨_, lst_mem hL, rfl⟩
      · obtain ⟨t, ht⟩ := fget_of_f hf
        rw [hls, lagO_get ht]
        exact lst_min (fget_some ht).1
theorem choose_why2 {num den : Int} {s : Cq} {so : Bool} {k j : Int} (h : chooseC num den s H so = ⟨k, j, 2⟩) : lagO s.D k < 0 ∧ keepsO num den (cntO s.n k) = false := by
  unfold chooseC at h
  dsimp only at h
  split at h
  · cases congrArg Chc.why h
  · rename_i hn
    split at h
    · have hk := congrArg Chc.ch h
      have hw := congrArg Chc.why h
      dsimp only at hk hw
      rw [hk] at hn hw
      split at hw
      · rename_i hg
        rw [hg] at hn
        cases h1 : decide (lagO s.D k < 0) with
        | false => rw [h1] at hn; simp at hn
        | true =>
          cases h2 : keepsO num den (cntO s.n k) with
          | false => exact ⟨by simpa using h1, rfl⟩
          | true => rw [h2] at hn; simp at hn
      · omega
    · split at h
      · cases congrArg Chc.why h
      · split at h
        · cases congrArg Chc.why h
        · cases congrArg Chc.why h
/-- What a slot does where a lagging flow can send. -/
theorem choose_lagging {num den : Int} (h : CqInv i m N s) (hf : fitsH s.R.L H = true) {f : Int} (hfl : f ∈ s.D.map (·.f)) (hl : 0 < lagO s.D f) (hg : (headOf H f).good = true) {c : Chc} {X : Ord}
    (hc : chooseC num den { s with C := eligO s.C (lagH s.D H), X := X } H (!(allH s.D H).isEmpty) = c) :
    (∃ w, (f, w) ∈ (eligO s.C (lagH s.D H)).el) ∧ (c.why = 1 ∧ c.sv = c.ch ∧ c.ch = (selT s.R.L).1 ∧ (lagO s.D c.ch < 0 → keepsO num den (cntO s.n c.ch) = true) ∨
      (c.why = 2 ∨ c.why = 3) ∧ c.ch = (selT s.R.L).1 ∧ c.ch ≠ f ∧ c.sv = leastF (eligO s.C (lagH s.D H)).el (eligO s.C (lagH s.D H)).tg) ∧ c ≠ chIdle := by
  obtain ⟨f1, _⟩ := fits_facts hf
  have hl' : ∀ p, PtOk (pickH s.D p H) := fun p => h.dpt.sub (pickH_sub _ _ _)
  have oC := h.c.elig (hl' fun x => x.good && decide (0 < lagO s.D x.f))
  have eC := h.c.elig_el (hl' fun x => x.good && decide (0 < lagO s.D x.f))
  have hin : ∃ w, (f, w) ∈ lagH s.D H := by
    obtain ⟨q, hq, rfl⟩ := List.mem_map.1 hfl
    obtain ⟨p, hp⟩ := List.getElem?_of_mem hq
    have hmf : H.map (·.f) = s.D.map (·.f) := by rw [f1, h.fl]
    have hHp : (H.map (·.f))[p]? = some q.f := by rw [hmf, List.getElem?_map, hp]; rfl
    rw [List.getElem?_map] at hHp
    cases hx : H[p]? with
    | none => rw [hx] at hHp; cases hHp
    | some x =>
      rw [hx] at hHp
      have hxf : x.f = q.f := Option.some.inj hHp
      refine ⟨q.w, ?_⟩
      unfold lagH pickH
      refine List.mem_map.2 ⟨(x, (q.f, q.w)), List.mem_filter.2 ⟨?_, ?_⟩, rfl⟩
      · have : (H.zip (ptsOf s.D))[p]? = some (x, (q.f, q.w)) := by
          rw [List.getElem?_zip_eq_some]
          exact ⟨hx, by unfold ptsOf; rw [List.getElem?_map, hp]; rfl⟩
        exact List.mem_of_getElem? this
      · have hxg : headOf H q.f = x := by
          have hasc : H.Pairwise fun a b => a.f < b.f := by
            have := h.lg.ok.asc'
            rw [← hmf, List.pairwise_map] at this
            exact this
          obtain ⟨m1, m2⟩ := headOf_mem (H := H) (f := q.f) (by rw [hmf]; exact hfl)
          have hxm := List.mem_of_getElem? hx
          generalize headOf H q.f = y at *
          have huq : ∀ {l : List Head}, l.Pairwise (fun a b => a.f < b.f) → ∀ a ∈ l, ∀ b ∈ l, a.f = b.f → a = b := by
            intro l
            induction l with
            | nil => intro _ a ha; cases ha
            | cons z l ih =>
              intro hp a ha b hb e
              rw [List.pairwise_cons] at hp
              rcases List.mem_cons.1 ha with ha | ha <;> rcases List.mem_cons.1 hb with hb | hb
              · rw [ha, hb]
              · have := hp.1 b hb; rw [ha] at e; omega
              · have := hp.1 a ha; rw [hb] at e; omega
              · exact ih hp.2 a ha b hb e
          exact huq hasc y m1 x hxm (m2.trans hxf.symm)
        rw [hxg] at hg
        dsimp only
        rw [hg, hxf]
        simpa using hl
  obtain ⟨w, hw⟩ := hin
  change (f, w) ∈ pickH s.D (fun x => x.good && decide (0 < lagO s.D x.f)) H at hw
  rw [← eC] at hw
  have hnn : 0 ≤ leastF (eligO s.C (lagH s.D H)).el (eligO s.C (lagH s.D H)).tg := by
    by_cases hlt : leastF (eligO s.C (lagH s.D H)).el (eligO s.C (lagH s.D H)).tg < 0
    · have := oC.least_nil.1 hlt
      rw [this] at hw; cases hw
    · omega
  refine ⟨⟨w, hw⟩, ?_⟩
  unfold chooseC at hc
  dsimp only at hc
  split at hc
  · rename_i hcond
    subst hc
    refine ⟨.inl ⟨rfl, rfl, rfl, fun hk => ?_⟩, by intro e; cases congrArg Chc.why e⟩
    dsimp only at hk ⊢
    rw [show decide (lagO s.D (selT s.R.L).1 < 0) = true by simpa using hk] at hcond
    simp only [Bool.not_true, Bool.false_or, Bool.and_eq_true] at hcond
    exact hcond.2
  · rename_i hcond
    subst hc
    refine ⟨.inr ⟨?_, rfl, ?_, rfl⟩, ?_⟩
    · dsimp only
      split
      · exact .inl rfl
      · exact .inr rfl
    · dsimp only
      intro e
      rw [e, hg, show decide (lagO s.D f < 0) = false by simp; omega] at hcond
      simp at hcond
    · intro e
      have := congrArg Chc.why e
      dsimp only [chIdle] at this
      split at this <;> omega
end
end Go.Proofs.Ytkmlkpfabkhleaa

/- Cifq, plain: the potential of a lagging flow. -/
namespace Go.Proofs.Ytkmlkpfabkhleaa
open Go.RowKit
open SP

def eff (o : Ord) (f : Int) : Int := max (tget o.tg f) o.tm
def pOf (num den : Int) (c : Int × Int) : Int := c.2 * den - num * c.1
/-- What is kept in slots with packets of one size. -/
structure DInv (sz : Int) (P : List (Int × Int)) (num den : Int) (s : Cq) : Prop where
  pts : ptsOf s.R.L = P
  ts : ∀ p ∈ P, lagO s.R.L p.1 ≤ s.R.tm + cst sz p.2
  te : ∀ p ∈ P, tget s.C.tg p.1 ≤ s.C.tm + cst sz p.2
  kp : ∀ f, -(num * sz) < pOf num den (cntO s.n f)
  dv : ∀ f, ∃ q : Int, lagO s.D f = q * sz
section
variable {sz : Int} {P : List (Int × Int)} {num den : Int} {s s' : Cq} {C : Ord} {k j why wk : Int} {i m N : Nat}

theorem keeps_iff (c : Int × Int) : keepsO num den c = true ↔ pOf num den c ≤ 0 := by
  unfold keepsO pOf
  rw [decide_eq_true_eq]
  omega
/-- The tags of eligible orders. -/
theorem elig_eff (o : Ord) (l : List (Int × Int)) (f : Int) : eff (eligO o l) f = eff o f ∧ (eligO o l).tm = o.tm ∧ tget (eligO o l).tg f ≤ eff o f := by
  unfold eff eligO
  dsimp only
  rw [eligTg_get]
  refine ⟨?_, rfl, ?_⟩
  · split <;> omega
  · split <;> omega
theorem count_keep {c : Int × Int} (_ : 0 < num) (_ : num < den) (_ : 1 ≤ sz) (_ : -(num * sz) < pOf num den c) (_ : pOf num den c ≤ 0) : pOf num den (c.1 + sz, c.2 + sz) = pOf num den c + sz * (den - num) := by
  unfold pOf
  dsimp only
  rw [Int.add_mul, Int.mul_add, Int.mul_sub, Int.mul_comm num sz]
  omega
theorem count_give {c : Int × Int} : pOf num den (c.1 + sz, c.2) = pOf num den c - num * sz := by
  unfold pOf
  dsimp only
  rw [Int.mul_add]; omega

theorem DInv.slot {len : Int} (h : DInv sz P num den s) (hI : CqInv i m N s) (hlen : len = sz) (hs : 1 ≤ sz) (hn : 0 < num) (hd : num < den) {l : List (Int × Int)} (hC : C = eligO s.C l) (hl : l.Sublist P) (hPk : PtOk P)
    (hw2 : why = 2 → keepsO num den (cntO s.n k) = false) (S : SlotF num den s s' C k j why len wk) : DInv sz P num den s' := by
  subst hlen
  have hP : P.map (·.1) = s.R.L.map (·.f) := by rw [← ptsOf_f, h.pts]
  have hpos : 0 < num * len := Int.mul_pos hn (by omega)
  have hdpos : 0 < len * (den - num) := Int.mul_pos (by omega) (by omega)
  have hcp : ∀ p ∈ P, 0 < cst len p.2 := fun p hp => by have := hPk.rng p hp; exact cst_pos hs this.2.2.1 this.2.2.2
  have huniq : ∀ {a b c : Int}, (a, b) ∈ P → (a, c) ∈ P → b = c := fun {a b c} h1 h2 => by
    have e1 := mget_mem hPk.uniq h1
    have e2 := mget_mem hPk.uniq h2
    rw [e1] at e2; exact Option.some.inj e2
  obtain ⟨by_, r1, r2⟩ := S.rl
  refine ⟨S.pt.trans h.pts, fun p hp => ?_, fun p hp => ?_, fun f => ?_, fun f => ?_⟩
  · have hpf : p.1 ∈ s.R.L.map (·.f) := by rw [← hP]; exact List.mem_map.2 ⟨p, hp, rfl⟩
    rw [r1 p.1 hpf, r2]
    have h1 := h.ts p hp
    have h3 := hcp p hp
    split
    · rename_i e
      have : p.2 = wk := huniq (a := p.1) hp (by rw [e, ← h.pts]; exact S.kw)
      rw [this, e]; omega
    · have hk := S.kw
      rw [h.pts] at hk
      have hkf : k ∈ s.R.L.map (·.f) := by rw [← hP]; exact List.mem_map.2 ⟨_, hk, rfl⟩
      have h4 := hI.t.act
      obtain ⟨t, ht⟩ := fget_of_f hkf
      have := (hI.t.act t (fget_some ht).1).1
      rw [lagO_get ht]; omega
  · have hel := elig_eff s.C l p.1
    have h3 := hcp p hp
    have h1 := h.te p hp
    have hm : tget C.tg p.1 ≤ C.tm + cst len p.2 := by
      rw [hC, hel.2.1]
      have := hel.2.2
      unfold eff at this
      omega
    by_cases hw : why = 2 ∨ why = 3
    · obtain ⟨wt, b2, g1, g2, g3, g4, g5, g6, g7⟩ := S.co hw
      rw [g7, g6]
      have hjl : (j, wt) ∈ P := by
        have := mem_of_mget g1
        rw [hC] at this
        unfold eligO at this
        dsimp only at this
        rw [eligEl_self (hPk.sub hl).uniq] at this
        exact hl.subset this
      split
      · rename_i e
        have : p.2 = wt := huniq (a := p.1) hp (by rw [e]; exact hjl)
        rw [this]
        rw [this] at h3
        omega
      · omega
    · rw [S.cn hw]; exact hm
  · rw [S.n f]
    split
    · split
      · rename_i hc
        obtain ⟨hcb, _⟩ := hc
        have hk := h.kp k
        unfold countC at hcb
        dsimp only at hcb
        rw [Bool.and_eq_true, Bool.or_eq_true, Bool.and_eq_true, decide_eq_true_eq, decide_eq_true_eq, decide_eq_true_eq] at hcb
        rcases hcb.2 with hw | ⟨hw1, hkk⟩
        · have hp0 : ¬ pOf num den (cntO s.n k) ≤ 0 := fun hle => by
            have := (keeps_iff (num := num) (den := den) (cntO s.n k)).2 hle
            rw [hw2 hw] at this; cases this
          split
          · have e : pOf num den ((cntO s.n k).1 + len, (cntO s.n k).2 + len) = pOf num den (cntO s.n k) + len * (den - num) := by
              unfold pOf; dsimp only
              rw [Int.add_mul, Int.mul_add, Int.mul_sub, Int.mul_comm num len]; omega
            rw [e]; omega
          · rw [count_give]; omega
        · have hle := (keeps_iff (num := num) (den := den) (cntO s.n k)).1 hkk
          split
          · rw [count_keep hn hd hs hk hle]; omega
          · rename_i hkj
            exact absurd (S.own hw1).symm hkj
      · exact h.kp f
    · unfold pOf; dsimp only; omega
  · obtain ⟨q, hq⟩ := h.dv f
    rw [S.d f, hq]
    refine ⟨q + (if f = k then 1 else 0) - (if f = j then 1 else 0), ?_⟩
    rw [Int.sub_mul, Int.add_mul]
    split <;> split <;> omega

/-! ### The potential -/
def potQ (sz num den : Int) (c : Int × Int) : Int := if 0 < pOf num den c then 1 else (-pOf num den c) / (sz * (den - num)) + 2
def keepK (num den : Int) : Int := num / (den - num) + 1
theorem potQ_pos {c : Int × Int} (hd : 0 < sz * (den - num)) : 1 ≤ potQ sz num den c := by
  unfold potQ
  split
  · exact Int.le_refl _
  · have := Int.ediv_nonneg (show 0 ≤ -pOf num den c by omega) (show 0 ≤ sz * (den - num) by omega)
    omega
theorem potQ_le {c : Int × Int} (hn : 0 < num) (hd : num < den) (hs : 1 ≤ sz) (h : -(num * sz) < pOf num den c) : potQ sz num den c ≤ keepK num den + 1 := by
  have hdp : 0 < sz * (den - num) := Int.mul_pos (by omega) (by omega)
  have h0 := Int.ediv_nonneg (show 0 ≤ num by omega) (show 0 ≤ den - num by omega)
  unfold potQ keepK
  split
  · omega
  · have h1 := Int.ediv_le_ediv hdp (show -pOf num den c ≤ sz * num by rw [Int.mul_comm sz num]; omega)
    rw [Int.mul_ediv_mul_of_pos _ _ (show 0 < sz by omega)] at h1
    omega
theorem potQ_keep {c c' : Int × Int} (hdp : 0 < sz * (den - num)) (hk : pOf num den c ≤ 0) (he : pOf num den c' = pOf num den c + sz * (den - num)) : potQ sz num den c' + 1 ≤ potQ sz num den c := by
  have hc : potQ sz num den c = (-pOf num den c) / (sz * (den - num)) + 2 := by unfold potQ; rw [if_neg (by omega)]
  rw [hc]
  unfold potQ
  rw [he]
  have h0 := Int.ediv_nonneg (show 0 ≤ -pOf num den c by omega) (show 0 ≤ sz * (den - num) by omega)
  split
  · omega
  · have e : -pOf num den c = -(pOf num den c + sz * (den - num)) + 1 * (sz * (den - num)) := by omega
    rw [e, Int.add_mul_ediv_right _ _ (by omega)]
    omega
/-- At most m slots are left. -/
def Pot (sz : Int) (P : List (Int × Int)) (num den : Int) (f wf M : Int) (s : Cq) (m : Int) : Prop :=
  ∃ l wl p : Int, (l, wl) ∈ P ∧ lagO s.D l < 0 ∧ lagO s.D f = p * sz ∧ 1 ≤ p ∧
    (p - 1) * (turnT P f wf * ((keepK num den + 1) * M)) + (trn sz P (eff s.C) f - 1) * ((keepK num den + 1) * M) + (potQ sz num den (cntO s.n l) - 1) * M + trn sz P (lagO s.R.L) l ≤ m
theorem Pot.pos {f wf M m : Int} (hPk : PtOk P) (hs : 1 ≤ sz) (hn : 0 < num) (hd : num < den) (hM : 0 ≤ M) (hwf : 1 ≤ wf) (h : Pot sz P num den f wf M s m) : 1 ≤ m := by
  obtain ⟨l, wl, p, _, _, _, hp, hm⟩ := h
  have hcp : ∀ p ∈ P, 0 < cst sz p.2 := fun p hp => by have := hPk.rng p hp; exact cst_pos hs this.2.2.1 this.2.2.2
  have hdp : 0 < sz * (den - num) := Int.mul_pos (by omega) (by omega)
  have h1 := trn_pos (v := eff s.C) (l := f) hcp
  have h2 := trn_pos (v := lagO s.R.L) (l := l) hcp
  have h3 := potQ_pos (c := cntO s.n l) hdp
  have hk : 0 ≤ keepK num den := by
    have := Int.ediv_nonneg (show 0 ≤ num by omega) (show 0 ≤ den - num by omega)
    unfold keepK; omega
  have hT : 0 ≤ turnT P f wf := by
    unfold turnT
    have := sumI_nn (l := P.map fun p => if p.1 = f then (0 : Int) else p.2 / wf + 1) fun x hx => by
      obtain ⟨q, hq, rfl⟩ := List.mem_map.1 hx
      split
      · omega
      · have := hPk.rng q hq
        have := Int.ediv_nonneg (show 0 ≤ q.2 by omega) (show 0 ≤ wf by omega)
        omega
    omega
  have a1 : 0 ≤ (keepK num den + 1) * M := Int.mul_nonneg (by omega) hM
  have a2 : 0 ≤ (p - 1) * (turnT P f wf * ((keepK num den + 1) * M)) := Int.mul_nonneg (by omega) (Int.mul_nonneg hT a1)
  have a3 : 0 ≤ (trn sz P (eff s.C) f - 1) * ((keepK num den + 1) * M) := Int.mul_nonneg (by omega) a1
  have a4 : 0 ≤ (potQ sz num den (cntO s.n l) - 1) * M := Int.mul_nonneg (by omega) hM
  omega
/-- A leading flow's share of the potential. -/
theorem lead_pot {M : Int} (h : DInv sz P num den s) (hI : CqInv i m N s) (hPk : PtOk P) (hs : 1 ≤ sz) (hn : 0 < num) (hd : num < den) (hM : ∀ p ∈ P, turnT P p.1 p.2 ≤ M) {l wl : Int} (hl : (l, wl) ∈ P) :
    (potQ sz num den (cntO s.n l) - 1) * M + trn sz P (lagO s.R.L) l ≤ (keepK num den + 1) * M ∧ trn sz P (lagO s.R.L) l ≤ M := by
  have hP : P.map (·.1) = s.R.L.map (·.f) := by rw [← ptsOf_f, h.pts]
  have hr := hPk.rng _ hl
  dsimp only at hr
  have hb : trn sz P (lagO s.R.L) l ≤ M := by
    refine Int.le_trans (trn_bound (base := s.R.tm) hs hPk ⟨hr.2.2.1, hr.2.2.2⟩ (h.ts _ hl) fun p hp => ?_) (hM _ hl)
    have hpf : p.1 ∈ s.R.L.map (·.f) := by rw [← hP]; exact List.mem_map.2 ⟨p, hp, rfl⟩
    obtain ⟨t, ht⟩ := fget_of_f hpf
    rw [lagO_get ht]
    exact (hI.t.act t (fget_some ht).1).1
  have hcp : ∀ p ∈ P, 0 < cst sz p.2 := fun p hp => by have := hPk.rng p hp; exact cst_pos hs this.2.2.1 this.2.2.2
  have h2 := trn_pos (v := lagO s.R.L) (l := l) hcp
  have hq := potQ_le hn hd hs (h.kp l)
  have := Int.mul_le_mul_of_nonneg_right (show potQ sz num den (cntO s.n l) - 1 ≤ keepK num den by omega) (show 0 ≤ M by omega)
  rw [Int.add_mul]
  exact ⟨by omega, hb⟩
theorem comp_turn {f wf : Int} (h : DInv sz P num den s) (hPk : PtOk P) (hs : 1 ≤ sz) (hf : (f, wf) ∈ P) : trn sz P (eff s.C) f ≤ turnT P f wf := by
  have hr := hPk.rng _ hf
  dsimp only at hr
  refine trn_bound (base := s.C.tm) hs hPk ⟨hr.2.2.1, hr.2.2.2⟩ ?_ fun p hp => ?_
  · have := h.te _ hf
    have := cst_pos hs hr.2.2.1 hr.2.2.2
    unfold eff; dsimp only at *; omega
  · unfold eff; omega
theorem pot_start {M : Int} {f wf p : Int} (h : DInv sz P num den s) (hI : CqInv i m N s) (hPk : PtOk P) (hs : 1 ≤ sz) (hn : 0 < num) (hd : num < den) (hM : ∀ p ∈ P, turnT P p.1 p.2 ≤ M) (hf : (f, wf) ∈ P)
    (hp : lagO s.D f = p * sz) (hp1 : 1 ≤ p) : Pot sz P num den f wf M s (p * (turnT P f wf * ((keepK num den + 1) * M))) := by
  have hpos : 0 < lagO s.D f := by rw [hp]; exact Int.mul_pos (by omega) (by omega)
  obtain ⟨l, hl, hneg⟩ := ex_lead hI.lg hI.sum hpos
  rw [hI.fl, ← ptsOf_f, h.pts] at hl
  obtain ⟨⟨l', wl⟩, hl2, rfl⟩ := List.mem_map.1 hl
  obtain ⟨h1, h2⟩ := lead_pot h hI hPk hs hn hd hM hl2
  have hcp : ∀ p ∈ P, 0 < cst sz p.2 := fun p hp => by have := hPk.rng p hp; exact cst_pos hs this.2.2.1 this.2.2.2
  have hB := trn_pos (v := lagO s.R.L) (l := l') hcp
  have hK : 0 ≤ (keepK num den + 1) * M := by
    have := Int.ediv_nonneg (show 0 ≤ num by omega) (show 0 ≤ den - num by omega)
    exact Int.mul_nonneg (by unfold keepK; omega) (by omega)
  refine ⟨l', wl, p, hl2, hneg, hp, hp1, ?_⟩
  have h3 := Int.mul_le_mul_of_nonneg_right (show trn sz P (eff s.C) f - 1 ≤ turnT P f wf - 1 by have := comp_turn h hPk hs hf; omega) hK
  have e1 : p * (turnT P f wf * ((keepK num den + 1) * M)) = (p - 1) * (turnT P f wf * ((keepK num den + 1) * M)) + turnT P f wf * ((keepK num den + 1) * M) := by rw [Int.sub_mul]; omega
  rw [Int.sub_mul (turnT P f wf), Int.one_mul] at h3
  rw [e1]
  omega
end
end Go.Proofs.Ytkmlkpfabkhleaa

/- Cifq, plain: the potential falls in every slot. -/
namespace Go.Proofs.Ytkmlkpfabkhleaa
open Go.RowKit
open SP
section
variable {sz : Int} {P : List (Int × Int)} {num den reb : Int} {s s' : Cq} {C : Ord} {k j why wk : Int} {i m N : Nat} {H : List Head}

theorem DInv.next (h : DInv sz P num den s) (hI : CqInv i m N s) (hi : i ≤ 299) (hN : N ≤ 1000000) (hf : fitsH s.R.L H = true) (hne : H ≠ []) (hsz : ∀ x ∈ H, x.len = sz) (hPk : PtOk P) (hs : 1 ≤ sz) (hn : 0 < num) (hd : num < den) :
    DInv sz P num den (stepC num den reb s H).2.2 := by
  have hsub : (lagH s.D H).Sublist P := by rw [← h.pts, ← hI.pts]; exact pickH_sub _ _ _
  obtain ⟨c, hc⟩ : ∃ c, chooseC num den { s with C := eligO s.C (lagH s.D H), X := eligO s.X (allH s.D H) } H (!(allH s.D H).isEmpty) = c := ⟨_, rfl⟩
  by_cases hid : c = chIdle
  · obtain ⟨_, _, _, _, h5⟩ := hI.step hi hN num den reb hf hne rfl rfl hc
    rcases h5 with ⟨_, e, _⟩ | ⟨j, why, len, he, hj0, _⟩
    · rw [e]
      refine ⟨h.pts, h.ts, fun p hp => ?_, h.kp, h.dv⟩
      have h1 := h.te p hp
      have h2 := elig_eff s.C (lagH s.D H) p.1
      have := hPk.rng p hp
      have h3 := cst_pos hs this.2.2.1 this.2.2.2
      unfold eff at h2
      show tget (eligO s.C (lagH s.D H)).tg p.1 ≤ (eligO s.C (lagH s.D H)).tm + _
      rw [h2.2.1]; omega
    · rw [hid] at he
      have := congrArg Chc.sv he
      dsimp only [chIdle] at this
      omega
  · obtain ⟨len, wk, _, ⟨x, hx, hxl⟩, _, _, _, S⟩ := hI.slot hi hN num den reb hf hne hc hid
    refine h.slot hI (hxl.symm.trans (hsz x hx)) hs hn hd rfl hsub hPk (fun hw => ?_) S
    obtain ⟨a, b, d⟩ := c
    dsimp only at hw ⊢
    subst hw
    exact (choose_why2 hc).2
theorem sfq_dec {len : Int} (h : DInv sz P num den s) (hPk : PtOk P) (hlen : len = sz) (hs : 1 ≤ sz) (S : SlotF num den s s' C k j why len wk) {l wl : Int} (hl : (l, wl) ∈ P) (hne : k ≠ l) : trn sz P (lagO s'.R.L) l + 1 ≤ trn sz P (lagO s.R.L) l := by
  subst hlen
  have hP : P.map (·.1) = s.R.L.map (·.f) := by rw [← ptsOf_f, h.pts]
  have hcp : ∀ p ∈ P, 0 < cst len p.2 := fun p hp => by have := hPk.rng p hp; exact cst_pos hs this.2.2.1 this.2.2.2
  obtain ⟨by_, r1, _⟩ := S.rl
  have hin : ∀ p ∈ P, p.1 ∈ s.R.L.map (·.f) := fun p hp => by rw [← hP]; exact List.mem_map.2 ⟨p, hp, rfl⟩
  have hk := S.kw
  rw [h.pts] at hk
  rw [trn_shift (v := fun g => if g = k then lagO s.R.L g + cst len wk else lagO s.R.L g) (d := by_) (r1 l (hin _ hl)) fun p hp => r1 p.1 (hin p hp)]
  refine trn_dec hcp (p := (k, wk)) (by (try dsimp only); rw [if_neg (Ne.symm hne)]) (fun p hp _ => ?_) hk hne (S.kmin l (hin _ hl)) (by try dsimp only; rw [if_pos rfl])
  (try dsimp only)
  split
  · rename_i e
    have := hcp _ hk
    dsimp only at this; omega
  · exact Int.le_refl _
theorem comp_dec {len : Int} (hPk : PtOk P) (hlen : len = sz) (hs : 1 ≤ sz) {l : List (Int × Int)} (hC : C = eligO s.C l) (hl : l.Sublist P) (S : SlotF num den s s' C k j why len wk) (hw : why = 2 ∨ why = 3) {f w : Int} (hf : (f, w) ∈ C.el) (hne : j ≠ f) :
    trn sz P (eff s'.C) f + 1 ≤ trn sz P (eff s.C) f := by
  subst hlen
  have hcp : ∀ p ∈ P, 0 < cst len p.2 := fun p hp => by have := hPk.rng p hp; exact cst_pos hs this.2.2.1 this.2.2.2
  obtain ⟨wt, b2, g1, g2, g3, g4, g5, g6, g7⟩ := S.co hw
  have hjl : (j, wt) ∈ P := by
    have := mem_of_mget g1
    rw [hC] at this
    unfold eligO at this
    dsimp only at this
    rw [eligEl_self (hPk.sub hl).uniq] at this
    exact hl.subset this
  have hcj := hcp _ hjl
  dsimp only at hcj
  have heff : ∀ g, eff C g = eff s.C g := fun g => by rw [hC]; exact (elig_eff s.C l g).1
  have e1 : trn len P (eff s.C) f = trn len P (eff C) f := trn_shift (d := 0) (by rw [heff]; omega) fun p _ => by rw [heff]; omega
  rw [e1, trn_shift (v := fun g => max (if g = j then tget C.tg j + cst len wt else tget C.tg g) (tget C.tg j)) (v' := eff s'.C) (d := b2)
    (by unfold eff; rw [g7, g6]; omega) fun p _ => by unfold eff; rw [g7, g6]; omega]
  have hfl := g5 _ hf
  dsimp only at hfl
  refine trn_dec hcp (p := (j, wt)) ?_ (fun p hp _ => ?_) hjl hne ?_ ?_
  · (try dsimp only); rw [if_neg (Ne.symm hne)]; unfold eff; omega
  · (try dsimp only); unfold eff
    split
    · rename_i e; rw [e]; omega
    · omega
  · dsimp only; unfold eff; omega
  · dsimp only; rw [if_pos rfl]; unfold eff; omega
/-- A slot: the flow is no longer lagging, or one slot fewer is left. -/
theorem Pot.step {f wf M mm : Int} (hpot : Pot sz P num den f wf M s mm) (h : DInv sz P num den s) (hI : CqInv i m N s) (hi : i ≤ 299) (hN : N ≤ 1000000) (hf : fitsH s.R.L H = true) (hne : H ≠ []) (hsz : ∀ x ∈ H, x.len = sz) (hPk : PtOk P) (hs : 1 ≤ sz)
    (hn : 0 < num) (hd : num < den) (hM : ∀ p ∈ P, turnT P p.1 p.2 ≤ M) (hfP : (f, wf) ∈ P) (hg : (headOf H f).good = true) :
    lagO (stepC num den reb s H).2.2.D f ≤ 0 ∨ Pot sz P num den f wf M (stepC num den reb s H).2.2 (mm - 1) := by
  have hnx := (hI.next hi hN num den reb hf hne).2
  have hD' := h.next (reb := reb) hI hi hN hf hne hsz hPk hs hn hd
  have hsub : (lagH s.D H).Sublist P := by rw [← h.pts, ← hI.pts]; exact pickH_sub _ _ _
  obtain ⟨l, wl, p, hl, hneg, hp, hp1, hle⟩ := hpot
  have hpos : 0 < lagO s.D f := by rw [hp]; exact Int.mul_pos (by omega) (by omega)
  have hfD : f ∈ s.D.map (·.f) := by rw [← ptsOf_f, hI.pts, h.pts]; exact List.mem_map.2 ⟨_, hfP, rfl⟩
  obtain ⟨c, hc⟩ : ∃ c, chooseC num den { s with C := eligO s.C (lagH s.D H), X := eligO s.X (allH s.D H) } H (!(allH s.D H).isEmpty) = c := ⟨_, rfl⟩
  obtain ⟨⟨w, hw⟩, hway, hid⟩ := choose_lagging hI hf hfD hpos hg hc
  obtain ⟨len, wk, hch, ⟨x, hx, hxl⟩, _, _, _, S⟩ := hI.slot hi hN num den reb hf hne hc hid
  have hlen : len = sz := hxl.symm.trans (hsz x hx)
  subst hlen
  generalize (stepC num den reb s H).2.2 = s' at *
  have hcp : ∀ p ∈ P, 0 < cst len p.2 := fun p hp => by have := hPk.rng p hp; exact cst_pos hs this.2.2.1 this.2.2.2
  have hB := trn_pos (v := lagO s.R.L) (l := l) hcp
  have hE := trn_pos (v := eff s.C) (l := f) hcp
  have hdp : 0 < len * (den - num) := Int.mul_pos (by omega) (by omega)
  have hQ := potQ_pos (c := cntO s.n l) hdp
  have hM0 : 0 ≤ M := by
    have := (lead_pot h hI hPk hs hn hd hM hl).2
    omega
  have hKM : 0 ≤ (keepK num den + 1) * M := by
    have := Int.ediv_nonneg (show 0 ≤ num by omega) (show 0 ≤ den - num by omega)
    exact Int.mul_nonneg (by unfold keepK; omega) hM0
  have hQM : 0 ≤ (potQ len num den (cntO s.n l) - 1) * M := Int.mul_nonneg (by omega) hM0
  have hEK : 0 ≤ (trn len P (eff s.C) f - 1) * ((keepK num den + 1) * M) := Int.mul_nonneg (by omega) hKM
  rcases hway with ⟨h1, h2, _, hkeep⟩ | ⟨hw23, _, hkf, hjl⟩
  · -- its own slot
    right
    have hlag : ∀ g, lagO s'.D g = lagO s.D g := fun g => by rw [S.d g, h2]; omega
    have hCe : s'.C = eligO s.C (lagH s.D H) := S.cn (by omega)
    have hcomp : trn len P (eff s'.C) f = trn len P (eff s.C) f := trn_shift (d := 0) (by rw [hCe, (elig_eff s.C _ f).1]; omega) fun q _ => by rw [hCe, (elig_eff s.C _ q.1).1]; omega
    refine ⟨l, wl, p, hl, by rw [hlag]; exact hneg, by rw [hlag]; exact hp, hp1, ?_⟩
    rw [hcomp]
    have hnl := S.n l
    rw [hlag, if_pos hneg] at hnl
    by_cases hk : c.ch = l
    · have hcount : countC num den s ⟨c.ch, c.sv, c.why⟩ = true := by
        unfold countC
        dsimp only
        rw [h1, hkeep (by rw [hk]; exact hneg), show decide (lagO s.D c.ch < 0) = true by simpa [hk] using hneg]
        rfl
      rw [if_pos ⟨hcount, hk.symm⟩, if_pos h2.symm, hk] at hnl
      have hkp := (keeps_iff (num := num) (den := den) (cntO s.n l)).1 (by rw [← hk]; exact hkeep (by rw [hk]; exact hneg))
      have hq := potQ_keep (sz := len) (num := num) (den := den) (c := cntO s.n l) (c' := cntO s'.n l) hdp hkp (by rw [hnl]; exact count_keep hn hd hs (h.kp l) hkp)
      have hb' := (lead_pot hD' hnx hPk hs hn hd hM hl).2
      have hmul := Int.mul_le_mul_of_nonneg_right (show potQ len num den (cntO s'.n l) - 1 ≤ potQ len num den (cntO s.n l) - 1 - 1 by omega) hM0
      rw [Int.sub_mul (potQ len num den (cntO s.n l) - 1) 1, Int.one_mul] at hmul
      omega
    · rw [if_neg fun h => hk h.2.symm] at hnl
      have hb := sfq_dec h hPk rfl hs S hl hk
      rw [hnl]; omega
  · -- a lagging flow is served in its place
    have hlagf : lagO s'.D f = lagO s.D f - (if f = c.sv then len else 0) := by rw [S.d f, if_neg (Ne.symm hkf)]; omega
    by_cases hjf : c.sv = f
    · rw [if_pos hjf.symm, hp] at hlagf
      by_cases hp0 : p = 1
      · left; rw [hlagf, hp0]; omega
      · right
        have hp' : lagO s'.D f = (p - 1) * len := by rw [hlagf, Int.sub_mul]; omega
        obtain ⟨l', wl', p', a1, a2, a3, a4, a5⟩ := pot_start hD' hnx hPk hs hn hd hM hfP hp' (by omega)
        exact ⟨l', wl', p', a1, a2, a3, a4, by omega⟩
    · right
      rw [if_neg (Ne.symm hjf)] at hlagf
      have hlag2 : lagO s'.D f = p * len := by rw [hlagf, hp]; omega
      have hpos' : 0 < lagO s'.D f := by rw [hlagf]; omega
      obtain ⟨l', hl', hneg'⟩ := ex_lead hnx.lg hnx.sum hpos'
      rw [hnx.fl, ← ptsOf_f, hD'.pts] at hl'
      obtain ⟨⟨l2, wl2⟩, hl2, rfl⟩ := List.mem_map.1 hl'
      obtain ⟨hb1, _⟩ := lead_pot hD' hnx hPk hs hn hd hM hl2
      have hcd := comp_dec hPk rfl hs rfl hsub S hw23 hw hjf
      have hmul := Int.mul_le_mul_of_nonneg_right (show trn len P (eff s'.C) f - 1 ≤ trn len P (eff s.C) f - 1 - 1 by omega) hKM
      rw [Int.sub_mul (trn len P (eff s.C) f - 1) 1, Int.one_mul] at hmul
      exact ⟨l2, wl2, p, hl2, hneg', hlag2, hp1, by omega⟩
end
end Go.Proofs.Ytkmlkpfabkhleaa

/- The closed forms of chapter 26: Turn, Longest, Keep, Delay. -/
namespace Go.Proofs.Ytkmlkpfabkhleaa
open Go.RowKit
open SP
section
variable {W w w' : World} {R : List SP} {b N cb K : Nat} {num den reb : Int} {s : Cq} {Sp : SP}

/-- The flows 0, 1, .. with weights. -/
def wP (ws : List Int) : List (Int × Int) := (List.range ws.length).map fun (k : Nat) => ((k : Int), ws.getD k 0)
theorem wP_len (ws : List Int) : (wP ws).length = ws.length := by unfold wP; simp
theorem wP_get {ws : List Int} {k : Nat} (h : k < ws.length) : (wP ws)[k]? = some ((k : Int), ws.getD k 0) := by
  unfold wP
  rw [List.getElem?_map, List.getElem?_range h]; rfl
theorem wP_mem {ws : List Int} {p : Int × Int} (h : p ∈ wP ws) : ∃ k : Nat, k < ws.length ∧ p = ((k : Int), ws.getD k 0) := by
  unfold wP at h
  obtain ⟨k, hk, rfl⟩ := List.mem_map.1 h
  exact ⟨k, List.mem_range.1 hk, rfl⟩
def tn1 (l w : Int) (p : Int × Int) : Int := if p.1 = l then 0 else p.2 / w + 1
def turnK (ws : List Int) (l w : Int) (k : Nat) : Int := 1 + sumI (((wP ws).take k).map (tn1 l w))
theorem turnK_all (ws : List Int) (l w : Int) : turnK ws l w ws.length = turnT (wP ws) l w := by
  unfold turnK turnT
  rw [List.take_of_length_le (by rw [wP_len]; exact Nat.le_refl _)]; rfl
theorem turnK_step {ws : List Int} {l w : Int} {k : Nat} (h : k < ws.length) : turnK ws l w (k + 1) = turnK ws l w k + tn1 l w ((k : Int), ws.getD k 0) := by
  unfold turnK
  rw [List.take_add_one, wP_get h, List.map_append, sumI_append]
  show 1 + (_ + (_ + 0)) = _
  omega
theorem turnK_bound {ws : List Int} {l w : Int} (hw : ∀ x ∈ ws, 1 ≤ x ∧ x ≤ 16) (h1 : 1 ≤ w) : ∀ k : Nat, k ≤ ws.length → 1 ≤ turnK ws l w k ∧ turnK ws l w k ≤ 1 + 17 * (k : Int)
  | 0, _ => by unfold turnK; simp [sumI]
  | k + 1, h => by
    have ih := turnK_bound (l := l) hw h1 k (by omega)
    rw [turnK_step (by omega)]
    have hg : ws.getD k 0 ∈ ws := by rw [List.getD_eq_getElem?_getD, List.getElem?_eq_getElem (by omega)]; exact List.getElem_mem _
    have hr := hw _ hg
    have hd : 0 ≤ ws.getD k 0 / w := Int.ediv_nonneg (by omega) (by omega)
    have hd2 : ws.getD k 0 / w ≤ ws.getD k 0 := Int.ediv_le_self _ (by omega)
    unfold tn1
    dsimp only
    split <;> omega

def TuRel (ws : List Int) (l wl : Int) (Sp : SP) (R : List SP) (w : World) (v6 v7 : Value) (wr : World) : Prop :=
  ∃ k : Nat, v7 = .int .i64 (k : Int) ∧ k ≤ ws.length ∧ v6 = .int .i64 (turnK ws l wl k) ∧ Own wr (Sp :: R) ∧ Calm w wr
set_option maxHeartbeats 3200000 in
set_option maxRecDepth 100000 in
theorem turn_spec {ws : List Int} {a : Option Addr} {n c l : Nat} (hS : IntsAt Sp a ws) (hn : n = ws.length) (hw : ∀ x ∈ ws, 1 ≤ x ∧ x ≤ 16) (hl : l < n) (h32 : n ≤ 32) (o : Own w (Sp :: R)) :
    Calls Try.prog 45 #[.slice a n c, .int .i64 (l : Int)] w (Ret (.tuple #[.int .i64 (turnT (wP ws) (l : Int) (ws.getD l 0)), .int .i64 0]) (Sp :: R) w) := by
  have hgl : ws[l]? = some (ws.getD l 0) := by rw [List.getD_eq_getElem?_getD, List.getElem?_eq_getElem (by omega)]; rfl
  obtain ⟨g, rfl, _⟩ := hS _ _ o l _ hgl
  have hrl := hw _ (List.mem_of_getElem? hgl)
  rw [← turnK_all]
  have Hn := Lib.hid hn
  have HGL := Lib.hid hgl
  have HB := Lib.hid (fun k hk => turnK_bound (ws := ws) (l := (l : Int)) (w := ws.getD l 0) hw hrl.1 k hk)
  have HW := Lib.hid hw
  generalize hwl : ws.getD l 0 = wl at *
  have HWL := Lib.hid hwl
  have hT : TuRel ws (l : Int) wl Sp R w (.int .i64 1) (.int .i64 0) w := ⟨0, rfl, by omega, by unfold turnK; simp [sumI], o, Calm.refl w⟩
  clear hn hgl hw hwl
  go_enter Try.func45, Try.ntmps45
  go_wp2
  go_loopw [6, 7] (fun v6 v7 wr => TuRel ws (l : Int) wl Sp R w v6 v7 wr) (fun _ v _ => n - (Lib.intOf v).toNat)
  case atStart => exact hT
  case round =>
    clear hT
    obtain ⟨k, rfl, hk, rfl, oR, kR⟩ := hrel
    by_cases hlt : k < n
    · have hkw : k < ws.length := by have := Hn.out; omega
      have hgk : ws[k]? = some (ws.getD k 0) := by rw [List.getD_eq_getElem?_getD, List.getElem?_eq_getElem hkw]; rfl
      have hrk := HW.out _ (List.mem_of_getElem? hgk)
      obtain ⟨_, hq, d0⟩ := hS _ _ oR k _ hgk
      cases hq
      obtain ⟨_, hq, d1⟩ := hS _ _ oR l _ HGL.out
      cases hq
      have hst := turnK_step (l := (l : Int)) (w := wl) hkw
      have hb := HB.out k hk
      have hb2 := HB.out (k + 1) hkw
      rw [hst] at hb2
      generalize ws.getD k 0 = wk at *
      have HST := Lib.hid hst
      generalize turnK ws (l : Int) wl k = T at *
      clear hgk hst
      have l1 : decide (wk < 1) = false := by simp; omega
      have l2 : decide (16 < wk) = false := by simp; omega
      have l3 : decide (wl < 1) = false := by simp; omega
      by_cases hkl : k = l
      · have hb0 : ((k : Int) == (l : Int)) = true := by simp [hkl]
        have hb1 : ((k : Int) != (l : Int)) = false := by simp [hkl]
        have hz : turnK ws (l : Int) wl (k + 1) = T := by rw [HST.out]; unfold tn1; rw [if_pos (by simp [hkl])]; omega
        have HZ := Lib.hid hz
        clear hz hkl
        go_wp2
        go_roundw
        case rel => exact ⟨k + 1, by go_num, by omega, by rw [HZ.out], oR, kR⟩
        case measure => simp [Lib.intOf]; omega
      · have hb0 : ((k : Int) == (l : Int)) = false := by simp; omega
        have hb1 : ((k : Int) != (l : Int)) = true := by simp; omega
        obtain ⟨q, hq⟩ : ∃ q, wk / wl = q := ⟨_, rfl⟩
        have hqn : 0 ≤ q := by rw [← hq]; exact Int.ediv_nonneg (by omega) (by omega)
        have hq2 : q ≤ wk := by rw [← hq]; exact Int.ediv_le_self _ (by omega)
        have htd : Int.tdiv wk wl = q := by rw [Int.tdiv_eq_ediv_of_nonneg (by omega)]; exact hq
        have hz : turnK ws (l : Int) wl (k + 1) = T + (q + 1) := by rw [HST.out]; unfold tn1; rw [if_neg (by dsimp only; omega), hq]
        have hwl0 : wl ≠ 0 := by omega
        have w1 := IntWalk.i64_in (q + 1) (by omega)
        have w2 := IntWalk.i64_in (T + (q + 1)) (by have := hb.2; omega)
        have w3 := IntWalk.i64_in q (by omega)
        have HZ := Lib.hid hz
        clear hz hq
        go_wp2
        go_quiet (fail)
        go_wp2
        go_roundw
        case rel => exact ⟨k + 1, by go_num, by omega, by rw [HZ.out], oR.drewN _, ⟨kR.os, kR.tape, kR.output⟩⟩
        case measure => simp [Lib.intOf]; omega
    · have hke : k = ws.length := by have := Hn.out; omega
      have HE := Lib.hid hke
      clear hke
      rw [HE.out] at *
      go_wp2
      go_ret2
      exact ⟨rfl, oR, kR⟩
end
end Go.Proofs.Ytkmlkpfabkhleaa

/- The closed forms of chapter 26: Longest, Keep, Delay. -/
namespace Go.Proofs.Ytkmlkpfabkhleaa
open Go.RowKit
open SP
section
variable {W w w' : World} {R : List SP} {b N cb K : Nat} {num den reb : Int} {s : Cq} {Sp : SP}

def turnW (ws : List Int) (k : Nat) : Int := turnT (wP ws) (k : Int) (ws.getD k 0)
theorem turnW_bound {ws : List Int} (hw : ∀ x ∈ ws, 1 ≤ x ∧ x ≤ 16) {k : Nat} (h : k < ws.length) (h5 : ws.length ≤ 5) : 1 ≤ turnW ws k ∧ turnW ws k ≤ 86 := by
  unfold turnW
  rw [← turnK_all]
  have hg : ws.getD k 0 ∈ ws := by rw [List.getD_eq_getElem?_getD, List.getElem?_eq_getElem h]; exact List.getElem_mem _
  have := turnK_bound (l := (k : Int)) hw (hw _ hg).1 ws.length (Nat.le_refl _)
  omega
def LgRel (ws : List Int) (Sp : SP) (R : List SP) (w : World) (v4 v6 : Value) (wr : World) : Prop :=
  ∃ (k : Nat) (M : Int), v6 = .int .i64 (k : Int) ∧ k ≤ ws.length ∧ v4 = .int .i64 M ∧ (∀ q : Nat, q < k → turnW ws q ≤ M) ∧ 1 ≤ M ∧ M ≤ 86 ∧ Own wr (Sp :: R) ∧ Calm w wr
def LongPost (ws : List Int) (Sp : SP) (R : List SP) (w : World) (e : Ending) (w' : World) : Prop :=
  ∃ M : Int, (∀ q : Nat, q < ws.length → turnW ws q ≤ M) ∧ 1 ≤ M ∧ M ≤ 86 ∧ Ret (.tuple #[.int .i64 M, .int .i64 0]) (Sp :: R) w e w'
set_option maxHeartbeats 3200000 in
set_option maxRecDepth 100000 in
theorem longest_spec {ws : List Int} {a : Option Addr} {n c : Nat} (hS : IntsAt Sp a ws) (hn : n = ws.length) (hw : ∀ x ∈ ws, 1 ≤ x ∧ x ≤ 16) (h1 : 1 ≤ n) (h5 : n ≤ 5) (o : Own w (Sp :: R)) :
    Calls Try.prog 47 #[.slice a n c] w (LongPost ws Sp R w) := by
  have Hn := Lib.hid hn
  have HW := Lib.hid hw
  have h0 := turnW_bound hw (k := 0) (by omega) (by omega)
  have hc0 := turn_spec (c := c) (l := 0) hS hn hw (by omega) (by omega) o
  change Calls _ _ _ _ (Ret (.tuple #[.int .i64 (turnW ws 0), .int .i64 0]) _ _) at hc0
  obtain ⟨T0, hT0⟩ : ∃ T0, turnW ws 0 = T0 := ⟨_, rfl⟩
  rw [hT0] at hc0 h0
  have HT0 := Lib.hid hT0
  clear hn hw hT0
  go_enter Try.func47, Try.ntmps47
  go_wp2_with fail
  refine hc0.mono ?_
  rintro e1 w1 ⟨rfl, o1, k1⟩
  have hT : LgRel ws Sp R w (.int .i64 T0) (.int .i64 1) w1 := ⟨1, T0, rfl, by have := Hn.out; omega, rfl, fun q hq => by
    have : q = 0 := by omega
    subst this; rw [HT0.out]; exact Int.le_refl _, h0.1, h0.2, o1, k1⟩
  clear hc0 o1 k1 o
  go_wp2
  go_loopw [4, 6] (fun v4 v6 wr => LgRel ws Sp R w v4 v6 wr) (fun _ v _ => n - (Lib.intOf v).toNat)
  case atStart => exact hT
  case round =>
    clear hT
    obtain ⟨k, M, rfl, hk, rfl, hM, hM1, hM2, oR, kR⟩ := hrel
    by_cases hlt : k < n
    · have hb := turnW_bound HW.out (k := k) (by have := Hn.out; omega) (by have := Hn.out; omega)
      have hc := turn_spec (c := c) (l := k) hS Hn.out HW.out hlt (by omega) oR
      change Calls _ _ _ _ (Ret (.tuple #[.int .i64 (turnW ws k), .int .i64 0]) _ _) at hc
      obtain ⟨Tk, hTk⟩ : ∃ Tk, turnW ws k = Tk := ⟨_, rfl⟩
      rw [hTk] at hc hb
      have HTK := Lib.hid hTk
      clear hTk
      go_wp2_with fail
      refine hc.mono ?_
      rintro e2 w2 ⟨rfl, o2, k2⟩
      clear hc
      have HM := Lib.hid hM
      clear hM
      go_wp2
      go_roundw
      case rel => exact ⟨k + 1, max M Tk, by go_num, by have := Hn.out; omega, rfl, fun q hq => by
        by_cases e : q = k
        · subst e; rw [HTK.out]; omega
        · have := HM.out q (by omega); omega, by omega, by omega, o2, kR.trans k2⟩
      case measure => simp [Lib.intOf]; omega
    · have HM := Lib.hid hM
      clear hM
      go_wp2
      go_ret2
      exact ⟨M, fun q hq => HM.out q (by have := Hn.out; omega), hM1, hM2, rfl, oR, kR⟩

set_option maxHeartbeats 800000 in
theorem validAlpha22_ok {nu de : Nat} (h : AlOk nu de) (o : Own w R) : Calls Try.prog 83 #[.agg #[.int .i64 (nu : Int), .int .i64 (de : Int)]] w (Ret (.bool true) R w) := by
  have h1 : (0 : Int) < (nu : Int) := by have := h.pos; omega
  have h2 : (nu : Int) < (de : Int) := by have := h.lt; omega
  have h3 : (de : Int) ≤ 1048576 := by have := h.le; omega
  have d1 : decide ((0 : Int) < (nu : Int)) = true := by simpa using h1
  have d2 : decide ((nu : Int) < (de : Int)) = true := by simpa using h2
  have d3 : decide ((de : Int) ≤ 1048576) = true := by simpa using h3
  go_enter Try.func83, Try.ntmps83
  go_wp2
  go_ret
  exact ⟨by simp [], o.alloc _ |>.drop, ⟨rfl, rfl, rfl⟩⟩
theorem keepK_bound {nu de : Nat} (h : AlOk nu de) : 1 ≤ keepK (nu : Int) (de : Int) ∧ keepK (nu : Int) (de : Int) ≤ 1048577 := by
  have h1 := h.lt
  have h2 := h.le
  have a1 := Int.ediv_nonneg (show 0 ≤ (nu : Int) by omega) (show 0 ≤ (de : Int) - (nu : Int) by omega)
  have a2 : (nu : Int) / ((de : Int) - (nu : Int)) ≤ (nu : Int) := Int.ediv_le_self _ (by omega)
  unfold keepK
  omega
set_option maxHeartbeats 1600000 in
set_option maxRecDepth 100000 in
theorem keep_spec {nu de : Nat} (h : AlOk nu de) (o : Own w R) : Calls Try.prog 46 #[.agg #[.int .i64 (nu : Int), .int .i64 (de : Int)]] w (Ret (.tuple #[.int .i64 (keepK (nu : Int) (de : Int)), .int .i64 0]) R w) := by
  have oA := o.alloc (.cells #[.int .i64 (nu : Int), .int .i64 (de : Int)] 30)
  have q0 := Own.cell (T := 30) (vs := [.int .i64 (nu : Int), .int .i64 (de : Int)]) oA 0
  have q1 := Own.cell (T := 30) (vs := [.int .i64 (nu : Int), .int .i64 (de : Int)]) oA 1
  have hlt := h.lt
  have hle := h.le
  have hb := keepK_bound h
  have hkq : keepK (nu : Int) (de : Int) = (nu : Int) / ((de : Int) - (nu : Int)) + 1 := rfl
  rw [hkq] at hb ⊢
  obtain ⟨q, hq⟩ : ∃ q, (nu : Int) / ((de : Int) - (nu : Int)) = q := ⟨_, rfl⟩
  rw [hq] at hb ⊢
  obtain ⟨dd, hdd⟩ : ∃ dd : Int, (de : Int) - (nu : Int) = dd := ⟨_, rfl⟩
  have w1 := IntWalk.i64_in ((de : Int) - (nu : Int)) (by omega)
  have w2 := IntWalk.i64_in (q + 1) (by omega)
  have w3 := IntWalk.i64_in q (by omega)
  have hdz : dd ≠ 0 := by omega
  have htd : Int.tdiv (nu : Int) dd = q := by rw [Int.tdiv_eq_ediv_of_nonneg (by omega), ← hdd]; exact hq
  rw [hdd] at w1
  clear hkq hq
  go_enter Try.func46, Try.ntmps46
  go_wp2_with fail
  refine (validAlpha22_ok h oA).mono ?_
  rintro e1 w1 ⟨rfl, o1, k1⟩
  have r0 := Own.cell (T := 30) (vs := [.int .i64 (nu : Int), .int .i64 (de : Int)]) o1 0
  have r1 := Own.cell (T := 30) (vs := [.int .i64 (nu : Int), .int .i64 (de : Int)]) o1 1
  go_wp2
  go_ret2
  exact ⟨rfl, o1.drop, (qcalm_alloc (Calm.refl w)).trans k1⟩
end
end Go.Proofs.Ytkmlkpfabkhleaa

/- The closed form of chapter 26: Delay. -/
namespace Go.Proofs.Ytkmlkpfabkhleaa
open Go.RowKit
open SP
section
variable {W w w' : World} {R : List SP} {b N cb K : Nat} {num den reb : Int} {s : Cq} {Sp : SP}

theorem mul_rng {a b A B : Int} (h1 : 0 ≤ a) (h2 : a ≤ A) (h3 : 0 ≤ b) (h4 : b ≤ B) : 0 ≤ a * b ∧ a * b ≤ A * B :=
  ⟨Int.mul_nonneg h1 h3, Int.mul_le_mul h2 h4 h3 (by omega)⟩
def DelPost (ws : List Int) (l : Nat) (p : Int) (nu de : Nat) (Sp : SP) (R : List SP) (w : World) (e : Ending) (w' : World) : Prop :=
  ∃ M : Int, (∀ q : Nat, q < ws.length → turnW ws q ≤ M) ∧ 1 ≤ M ∧ M ≤ 86 ∧ Ret (.tuple #[.int .i64 (p * (turnW ws l * ((keepK (nu : Int) (de : Int) + 1) * M))), .int .i64 0]) (Sp :: R) w e w'
set_option maxHeartbeats 3200000 in
set_option maxRecDepth 100000 in
theorem delay_spec {ws : List Int} {a : Option Addr} {n c l nu de : Nat} {p : Int} (hS : IntsAt Sp a ws) (hn : n = ws.length) (hw : ∀ x ∈ ws, 1 ≤ x ∧ x ≤ 16) (hl : l < n) (h5 : n ≤ 5) (hA : AlOk nu de) (hp : 0 ≤ p ∧ p ≤ 4) (o : Own w (Sp :: R)) :
    Calls Try.prog 16 #[.slice a n c, .agg #[.int .i64 (nu : Int), .int .i64 (de : Int)], .int .i64 (l : Int), .int .i64 p] w (DelPost ws l p nu de Sp R w) := by
  have oA := o.alloc (.cells #[.int .i64 (nu : Int), .int .i64 (de : Int)] 30)
  have hb := turnW_bound hw (k := l) (by omega) (by omega)
  have hk := keepK_bound hA
  have hc0 := turn_spec (c := c) (l := l) hS hn hw hl (by omega) (oA.re [1])
  change Calls _ _ _ _ (Ret (.tuple #[.int .i64 (turnW ws l), .int .i64 0]) _ _) at hc0
  have hkc := fun (w : World) (R : List SP) (o : Own w R) => keep_spec hA o
  have Hn := Lib.hid hn
  have HW := Lib.hid hw
  unfold DelPost
  generalize turnW ws l = T at *
  generalize keepK (nu : Int) (de : Int) = Kk at *
  have HKC := Lib.hid hkc
  clear hn hw hkc
  go_enter Try.func16, Try.ntmps16
  go_wp2_with fail
  refine hc0.mono ?_
  rintro e1 w1 ⟨rfl, o1, k1⟩
  have r0 := Own.cell (T := 30) (vs := [.int .i64 (nu : Int), .int .i64 (de : Int)]) (o1.up 1) 0
  have r1 := Own.cell (T := 30) (vs := [.int .i64 (nu : Int), .int .i64 (de : Int)]) (o1.up 1) 1
  go_wp2_with fail
  refine (HKC.out _ _ o1).mono ?_
  rintro e2 w2 ⟨rfl, o2, k2⟩
  have d1 : decide (p < 0) = false := by simp; omega
  have d2 : decide (1048576 < p) = false := by simp; omega
  go_wp2_with fail
  refine (longest_spec hS Hn.out HW.out (by omega) h5 o2).mono ?_
  rintro e3 w3 ⟨M, hM, hM1, hM2, rfl, o3, k3⟩
  have m1 := mul_rng hp.1 hp.2 (show 0 ≤ T by omega) hb.2
  have m2 := mul_rng m1.1 m1.2 (show 0 ≤ Kk + 1 by omega) (show Kk + 1 ≤ 1048578 by omega)
  have m3 := mul_rng m2.1 m2.2 (show 0 ≤ M by omega) hM2
  have v1 := IntWalk.i64_in (p * T) (by omega)
  have v2 := IntWalk.i64_in (Kk + 1) (by omega)
  have v3 := IntWalk.i64_in (p * T * (Kk + 1)) (by omega)
  have v4 := IntWalk.i64_in (p * T * (Kk + 1) * M) (by omega)
  have he : p * (T * ((Kk + 1) * M)) = p * T * (Kk + 1) * M := by rw [← Int.mul_assoc T, ← Int.mul_assoc p, ← Int.mul_assoc p]
  have HE := Lib.hid he
  have HM := Lib.hid hM
  clear he hM m1 m2 m3
  go_wp2
  go_ret2
  exact ⟨M, HM.out, hM1, hM2, by rw [HE.out]; rfl, o3.re [1] 1, (qcalm_alloc (Calm.refl w)).trans (k1.trans (k2.trans k3))⟩
end
end Go.Proofs.Ytkmlkpfabkhleaa

/- Cifq, plain: what the law on the delay needs besides. -/
namespace Go.Proofs.Ytkmlkpfabkhleaa
open Go.RowKit
open SP
section
variable {sz : Int} {num den reb : Int} {s : Cq} {i m N : Nat} {H : List Head}

theorem CqInv.next_low (h : CqInv i m N s) (hi : i ≤ 299) (hN : N ≤ 1000000) (hf : fitsH s.R.L H = true) (hne : H ≠ []) (hr : reb ≤ 2952069120) (hl : CqLow s) : CqLow (stepC num den reb s H).2.2 := by
  obtain ⟨_, _, _, _, h5⟩ := h.step hi hN num den reb hf hne rfl rfl rfl
  rcases h5 with ⟨_, e, _⟩ | ⟨j, why, len, _, _, _, _, _, _, _, e, _, _, _, _, h7⟩
  · rw [e]; exact ⟨hl.r, hl.c, hl.x⟩
  · rw [e]; exact h7 hr hl
theorem lw_pts (ws : List Int) : ptsOf (lw ws) = wP ws := by
  unfold lw wP ptsOf
  rw [List.map_map]; rfl
theorem stW_low (ws : List Int) : CqLow (stW ws) := ⟨by show (0 : Int) ≤ _; omega, by show (0 : Int) ≤ _; omega, by show (0 : Int) ≤ _; omega⟩
theorem lw_lag (ws : List Int) (f : Int) : lagO (lw ws) f = 0 := by
  cases hf : fget (lw ws) f with
  | none => exact lagO_none hf
  | some t =>
    rw [lagO_get hf]
    have ht : t ∈ lw ws := (fget_some hf).1
    unfold lw at ht
    obtain ⟨i, _, rfl⟩ := List.mem_map.1 ht
    rfl
theorem wP_ok {ws : List Int} (hw : ∀ w ∈ ws, 1 ≤ w ∧ w ≤ 16) (h : ws.length ≤ 32) : PtOk (wP ws) := by
  have := (stW_inv ws.length ws rfl h hw).dpt
  rw [← lw_pts]; exact this
theorem stW_dinv {ws : List Int} (hw : ∀ w ∈ ws, 1 ≤ w ∧ w ≤ 16) (h : ws.length ≤ 32) (hs : 1 ≤ sz) (hn : 0 < num) : DInv sz (wP ws) num den (stW ws) := by
  have hpos : 0 < num * sz := Int.mul_pos hn (by omega)
  refine ⟨lw_pts ws, fun p hp => ?_, fun p hp => ?_, fun f => ?_, fun f => ⟨0, ?_⟩⟩
  · have := (wP_ok hw h).rng p hp
    have := cst_pos hs this.2.2.1 this.2.2.2
    show lagO (lw ws) p.1 ≤ 0 + _
    rw [lw_lag]; omega
  · have := (wP_ok hw h).rng p hp
    have := cst_pos hs this.2.2.1 this.2.2.2
    show (0 : Int) ≤ 0 + _
    omega
  · show -(num * sz) < pOf num den (0, 0)
    unfold pOf; dsimp only; omega
  · show lagO (lw ws) f = _
    rw [lw_lag, Int.zero_mul]
theorem tdiv_rng {a b B : Int} (hb : 1 ≤ b) (h1 : -B ≤ a) (h2 : a ≤ B) : -B ≤ Int.tdiv a b ∧ Int.tdiv a b ≤ B := by
  have key : ∀ c : Int, 0 ≤ c → 0 ≤ Int.tdiv c b ∧ Int.tdiv c b ≤ c := fun c hc => by
    rw [Int.tdiv_eq_ediv_of_nonneg hc]
    exact ⟨Int.ediv_nonneg hc (by omega), Int.ediv_le_self _ hc⟩
  by_cases ha : 0 ≤ a
  · have := key a ha; omega
  · have := key (-a) (by omega)
    have e : Int.tdiv a b = - Int.tdiv (-a) b := by rw [Int.neg_tdiv, Int.neg_neg]
    rw [e]; omega
theorem pk_of {q : Int} (hs : 1 ≤ sz) (hq : 1 ≤ q) : Int.tdiv (q * sz + sz - 1) sz = q := by
  have h0 : 0 ≤ q * sz := Int.mul_nonneg (by omega) (by omega)
  rw [Int.tdiv_eq_ediv_of_nonneg (by omega)]
  have e : q * sz + sz - 1 = (sz - 1) + q * sz := by omega
  rw [e, Int.add_mul_ediv_right _ _ (by omega), Int.ediv_eq_zero_of_lt (by omega) (by omega), Int.zero_add]
theorem lag_rng (h : CqInv i m N s) (f : Int) : -(8192 * (N : Int)) ≤ lagO s.D f ∧ lagO s.D f ≤ 8192 * (N : Int) := by
  cases hf : fget s.D f with
  | none => rw [lagO_none hf]; omega
  | some t => rw [lagO_get hf]; exact h.lg.lag (fget_some hf).1
theorem idI_get {n k : Nat} (h : k < n) : (idI n)[k]? = some (k : Int) := by
  unfold idI
  rw [List.getElem?_map, List.getElem?_range h]; rfl
theorem headOf_at {n k : Nat} {h : Head} (hm : H.map (·.f) = idI n) (hh : H[k]? = some h) : headOf H (k : Int) = h := by
  have hlen : H.length = n := by rw [← idI_len n, ← hm, List.length_map]
  have hk := (List.getElem?_eq_some_iff.1 hh).1
  have hfx : ∀ (q : Nat) (x : Head), H[q]? = some x → x.f = (q : Int) := fun q x hx => by
    have hq := (List.getElem?_eq_some_iff.1 hx).1
    have := congrArg (fun l => l[q]?) hm
    simp only [List.getElem?_map, hx, idI_get (show q < n by omega)] at this
    exact Option.some.inj this
  obtain ⟨q, e1, e2⟩ := headOf_idx (H := H) (k := (k : Int)) ⟨h, List.mem_of_getElem? hh, hfx k h hh⟩
  have h3 : (headOf H (k : Int)).f = (k : Int) := (headOf_mem (List.mem_map.2 ⟨h, List.mem_of_getElem? hh, hfx k h hh⟩)).2
  have h4 := hfx q _ e1
  have : q = k := by omega
  subst this
  rw [hh] at e1
  exact (Option.some.inj e1).symm
theorem set_good {n k : Nat} {h : Head} (hm : H.map (·.f) = idI n) (hh : H[k]? = some h) (y : Bool) : (H.set k { h with good := y }).map (·.f) = idI n ∧ (H.set k { h with good := y })[k]? = some { h with good := y } ∧ flat headC (H.set k { h with good := y }) = (flat headC H).set (k * 3 + 2) (.bool y) := by
  have hk := (List.getElem?_eq_some_iff.1 hh).1
  refine ⟨?_, ?_, ?_⟩
  · rw [List.map_set, ← hm]
    refine List.ext_getElem? fun q => ?_
    rw [List.getElem?_set]
    split
    · rename_i e
      subst e
      rw [if_pos (by rw [List.length_map]; exact hk), List.getElem?_map, hh]; rfl
    · rfl
  · rw [List.getElem?_set_self hk]
  · exact flat_set headC_len H k 2 h { h with good := y } (.bool y) hh (by omega) rfl
end
end Go.Proofs.Ytkmlkpfabkhleaa
