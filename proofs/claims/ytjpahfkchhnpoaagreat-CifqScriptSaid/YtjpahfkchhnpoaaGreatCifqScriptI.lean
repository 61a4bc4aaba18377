/- Texts that the law rests on, put together by a program. -/
import Derived.Test.YtjpahfkchhnpoaaGreatCifqScriptE
import Derived.Test.YtjpahfkchhnpoaaGreatCifqScriptH
import Derived.Test.YtjpahfkchhnpoaaGreatCifqScriptB
import Derived.Test.YtjpahfkchhnpoaaGreatCifqScriptA
import Derived.Deep.MidRow
import Derived.Deep.DeepCutAuto
import Derived.Deep.CutBlock
import Derived.Test.YtjpahfkchhnpoaaGreatCifqScriptC
import Derived.Test.YtjpahfkchhnpoaaGreatCifqScriptD
/- A slot of cifq, walked: what it does where the heads fit. -/
namespace Go.Proofs.YtjpahfkchhnpoaaGreat
open Go.RowKit
open SP
section
variable {w w' : World} {R : List SP} {b rp lp cp xp nb N : Nat} {num den reb : Int} {s : Cq} {Sp : SP}

theorem headsAt_val {a : Option Addr} {H : List Head} (h1 : HeadsAt Sp a H) (o : Own w (Sp :: R)) {f : Int} (h : ∃ x ∈ H, x.f = f) :
    ∃ (g i : Nat), a = some ⟨g, 0, none⟩ ∧ i < H.length ∧ idxH f 0 H = (i : Int) ∧ w.cell? ⟨g, i * 3 + 1, none⟩ = some (.int .i64 (headOf H f).len) := by
  obtain ⟨i, e1, e2⟩ := headOf_idx h
  obtain ⟨g, h2, _, h3, _⟩ := h1 w R o i _ e1
  exact ⟨g, i, h2, (List.getElem?_eq_some_iff.1 e1).1, e2, h3⟩

def OrdCopyPost (b : Nat) (reb : Int) (o : Ord) (R : List SP) (w : World) (e : Ending) (w' : World) : Prop :=
  ∃ p, Ret (.pointer (some ⟨p, 0, none⟩)) (OrdR p reb o :: OrdR b reb o :: R) w e w'
theorem ordCopy_spec {C : Ord} (o : Own w (OrdR b reb C :: R)) : Calls Tryz.prog 58 #[.pointer (some ⟨b, 0, none⟩)] w (OrdCopyPost b reb C R w) := compCopy_spec o

theorem ordElig_spec {C : Ord} {a : Option Addr} {n c : Nat} {l : List (Int × Int)} (hn : n = l.length) (hl : PtOk l) (o : Own w (slc 145 2 a n c (flat part l) :: OrdR b reb C :: R)) :
    Calls Tryz.prog 60 #[.pointer (some ⟨b, 0, none⟩), .slice a n c] w (Ret (.int .i64 0) (slc 145 2 a n c (flat part l) :: OrdR b reb (eligO C l) :: R) w) :=
  eligible_ok a n c l hn (by have := hl.len; omega) hl.good o

theorem cqServe_ok {S : St} {C X : Ord} {k j why len : Int} (h1 : (chargeR reb S k len).1 = 0) (h2 : (servC reb C X ⟨k, j, why⟩ len).1 = 0) (haw : 0 ≤ S.aw ∧ S.aw ≤ 1152921504606846976) (hC : OrdOk C) (hX : OrdOk X)
    (o : Own w (CqC b num den rp lp cp xp nb :: SfqR rp reb S :: OrdR cp reb C :: OrdR xp reb X :: R)) :
    Calls Tryz.prog 63 #[.pointer (some ⟨b, 0, none⟩), .agg #[.int .i64 k, .int .i64 j, .int .i64 why], .int .i64 len] w
      (Ret (.int .i64 0) (CqC b num den rp lp cp xp nb :: SfqR rp reb (chargeR reb S k len).2 :: OrdR cp reb (servC reb C X ⟨k, j, why⟩ len).2.1 :: OrdR xp reb (servC reb C X ⟨k, j, why⟩ len).2.2 :: R) w) := by
  refine (cqServe_spec ⟨k, j, why⟩ len haw hC hX o).mono fun e w' h => ?_
  unfold CqServPost at h
  dsimp only at h
  rw [if_neg (by rw [h1]; simp), h2] at h
  exact h

def cntN (z : Bool) (n : List (Int × (Int × Int))) (c : Chc) (len : Int) : List (Int × (Int × Int)) := if z = true then bumpC n c len else n

set_option maxHeartbeats 6400000 in
set_option maxRecDepth 100000 in
theorem step_go {i m : Nat} {nu de : Nat} (hI : CqInv i m N s) (hi : i ≤ 299) (hm : m ≤ 200000) (hN : N ≤ 1000000) (hnu : nu < 4194304) (hde : de < 4194304)
    {a : Option Addr} {n c : Nat} {H : List Head} (h1 : HeadsAt Sp a H) (hn : n = H.length) (hl : n ≤ 32) (hf : fitsH s.R.L H = true) (hne : H ≠ [])
    (o : Own w (CqC b (nu : Int) (de : Int) rp lp cp xp nb :: SfqR rp reb s.R :: LagR lp N s.D :: mpI cntV nb s.n :: OrdR cp reb s.C :: OrdR xp reb s.X :: Sp :: R)) :
    Calls Tryz.prog 32 #[.pointer (some ⟨b, 0, none⟩), .slice a n c] w
      (Ret (.tuple #[chV (stepC (nu : Int) (de : Int) reb s H).1, .int .i64 (stepC (nu : Int) (de : Int) reb s H).2.1]) (CqF b (nu : Int) (de : Int) reb (N + 1) (stepC (nu : Int) (de : Int) reb s H).2.2 :: Sp :: R) w) := by
  have hn0 : ¬ n = 0 := fun h => hne (List.eq_nil_of_length_eq_zero (by omega))
  have oA := (o.alloc (.cells #[.int .i64 0, .int .i64 0, .int .i64 0] 89)).alloc (.cells #[.int .i64 (-1), .int .i64 (-1), .int .i64 6] 89)
  simp only [World.size_alloc] at oA
  have hc := fits_spec (c := c) h1 hn (by omega) (oA.re [2, 3, 8, 0, 1, 4, 5, 6, 7])
  rw [hf] at hc
  have Hn := Lib.hid hn
  have hFit := Lib.hid (fits_facts hf)
  have HlD : s.D.length = n := by rw [hI.len, Hn.out, ← List.length_map (f := fun x => x.f), ← hFit.out.1, List.length_map]
  have hL : s.R.L ≠ [] := fun e => hn0 (by rw [← HlD, hI.len, e]; rfl)
  have hk : ∃ h ∈ H, h.f = (selT s.R.L).1 := by
    have h2 := (selT_mem hL).2
    rw [(selT_mem hL).1]
    rw [← hFit.out.1] at h2
    obtain ⟨x, hx, e⟩ := List.mem_map.1 h2
    exact ⟨x, hx, e⟩
  have hcn := hI.cnt (selT s.R.L).1
  obtain ⟨cr, hcr⟩ := Int.eq_ofNat_of_zero_le hcn.1
  obtain ⟨cl, hcl⟩ := Int.eq_ofNat_of_zero_le hcn.2.2.1
  have hcc : cntO s.n (selT s.R.L).1 = ((cr : Int), (cl : Int)) := by rw [← hcr, ← hcl]
  have hcr' : cr < 1099511627776 := by omega
  have hcl' : cl < 1099511627776 := by omega
  have hso : (!(allH s.D H).isEmpty) = decide (0 < (allH s.D H).length) := by cases allH s.D H <;> rfl
  obtain ⟨C, hC⟩ : ∃ C, eligO s.C (lagH s.D H) = C := ⟨_, rfl⟩
  obtain ⟨X, hX⟩ : ∃ X, eligO s.X (allH s.D H) = X := ⟨_, rfl⟩
  obtain ⟨cc, hch⟩ : ∃ cc, chooseC (nu : Int) (de : Int) { s with C := C, X := X } H (!(allH s.D H).isEmpty) = cc := ⟨_, rfl⟩
  obtain ⟨oC, oX, eC, eX, hstep⟩ := hI.step hi hN (nu : Int) (de : Int) reb hf hne hC hX hch
  rw [hso] at hch
  have hcho := fun (w : World) (b rp cp xp : Nat) (R : List SP) o => choose_spec (w := w) (b := b) (rp := rp) (cp := cp) (xp := xp) (R := R) (lp := lp) (nb := nb) (N := N) (reb := reb) (Sp := Sp) (c := c) (so := decide (0 < (allH s.D H).length)) (s := { s with C := C, X := X }) hnu hde hcr' hcl' hcc h1 hn hl hk (oC.ok (by omega)) (oX.ok (by omega)) o
  rw [hch] at hcho
  have HC := Lib.hid hC
  have HX := Lib.hid hX
  clear hk
  obtain ⟨k, hk⟩ : ∃ k, (lst s.R.L).f = k := ⟨_, rfl⟩
  rw [hk] at hstep
  have HS := Lib.hid hstep
  have HO := Lib.hid (And.intro (oC.ok (by omega)) (oX.ok (by omega)))
  clear hk
  have HCHO := Lib.hid hcho
  clear hcn hcr hcl hcc hcr' hcl' hso hC hX hch oC oX eC eX hstep hcho
  have hl : n ≤ 32 := hl
  clear hn
  go_enter Tryz.func32, Tryz.ntmps32
  go_wp2_with fail
  refine hc.mono ?_
  rintro e1 w1 ⟨rfl, o1, k1⟩
  clear hc
  have c0 := o1.cell 0
  have c1 := o1.cell 1
  have c2 := o1.cell 2
  have c3 := o1.cell 3
  have c4 := o1.cell 4
  have c5 := o1.cell 5
  have c6 := o1.cell 6
  have cl := o1.celLt
  have oB := o1.alloc (.cells #[.int .i64 (nu : Int), .int .i64 (de : Int), .pointer (some ⟨rp, 0, none⟩), .pointer (some ⟨lp, 0, none⟩), .pointer (some ⟨cp, 0, none⟩), .pointer (some ⟨xp, 0, none⟩), .map (some nb)] 69)
  go_wp2
  have oBd := oB.drew.re [2, 0, 1, 3, 4, 5, 6, 7, 8, 9]
  have c2' := (oB.up 1).cell 2
  have c4' := (oB.up 1).cell 4
  have c5' := (oB.up 1).cell 5
  go_region_held3 (fun w' => w'.cell? ⟨b, 2, none⟩ = some (.pointer (some ⟨rp, 0, none⟩)) ∧ w'.cell? ⟨b, 4, none⟩ = some (.pointer (some ⟨cp, 0, none⟩)) ∧ w'.cell? ⟨b, 5, none⟩ = some (.pointer (some ⟨xp, 0, none⟩))) (go_keep) (first
    | (go_at_call 57; (with_reducible refine (sfqCopyC_spec oBd).mono ?_); rintro e2 w2 ⟨rq, rfl, o2, k2⟩; have x2 := (o2.up 3).cell 2; have x4 := (o2.up 3).cell 4; have x5 := (o2.up 3).cell 5; have o2b := o2.re [9])
    | (go_at_call 58; (with_reducible refine (ordCopy_spec o2b).mono ?_); rintro e3 w3 ⟨cq, rfl, o3, k3⟩; have y2 := (o3.up 5).cell 2; have y4 := (o3.up 5).cell 4; have y5 := (o3.up 5).cell 5; have o3b := o3.re [11])
    | (go_at_call 58; (with_reducible refine (ordCopy_spec o3b).mono ?_); rintro e4 w4 ⟨xq, rfl, o4, k4⟩; have z2 := (o4.up 7).cell 2; have z4 := (o4.up 7).cell 4; have z5 := (o4.up 7).cell 5; have t2 := (o4.up 6).cell 2; have tf := (o4.up 6).frozen; have tl := (o4.up 6).celLt; have oS := (o4.up 6).setCell 2 (.pointer (some ⟨rq, 0, none⟩)); have s2 := (oS.up 7).cell 2; have s4 := (oS.up 7).cell 4; have s5 := (oS.up 7).cell 5; have t4 := oS.cell 4; have sf := oS.frozen; have sl := oS.celLt; have oS2 := oS.setCell 4 (.pointer (some ⟨cq, 0, none⟩)); have u2 := (oS2.up 7).cell 2; have u4 := (oS2.up 7).cell 4; have u5 := (oS2.up 7).cell 5; have t5 := oS2.cell 5; have uf := oS2.frozen; have ul := oS2.celLt; have oS3 := oS2.setCell 5 (.pointer (some ⟨xq, 0, none⟩)); have v2 := (oS3.up 7).cell 2; have v4 := (oS3.up 7).cell 4; have v5 := (oS3.up 7).cell 5))
  have oT : Own _ (CqC w1.heap.size (nu : Int) (de : Int) rq lp cq xq nb :: _) := oS3.re [2, 4, 6] 3
  have KK : Calm w w4 := Calm.trans ⟨k1.os, k1.tape, k1.output⟩ (Calm.trans ⟨k2.os, k2.tape, k2.output⟩ (Calm.trans k3 k4))
  generalize w1.heap.size = tb at *
  clear c0 c1 c2 c3 c4 c5 c6 cl oB oBd c2' c4' c5' x2 x4 x5 o2 o2b o3 y2 y4 y5 o3b z2 z4 z5 t2 tf tl s2 s4 s5 t4 sf sl oS oS2 u2 u4 u5 t5 uf ul o1 oA o o4 v2 v4 v5
  have oU := oT.re [4, 8, 5]
  go_wp2_with fail
  refine (sending_spec (c := c) h1 Hn.out HlD hl oU).mono ?_
  rintro e5 w5 ⟨a1, a2, q1, q2, rfl, o5, k5⟩
  have K5 : Calm w w5 := KK.trans ⟨k5.os, k5.tape, k5.output⟩
  clear KK k5 k1 k2 k3 k4
  have hpL : PtOk (lagH s.D H) := hI.dpt.sub (pickH_sub _ _ _)
  have hpA : PtOk (allH s.D H) := hI.dpt.sub (pickH_sub _ _ _)
  have HpL := Lib.hid hpL
  have HpA := Lib.hid hpA
  clear hpL hpA
  have x4 := (o5.up 5).cell 4
  have xl := (o5.up 5).celLt
  have hcall := ordElig_spec (b := cq) (reb := reb) (C := s.C) (c := q2) rfl HpL.out (o5.re [1, 7, 0, 2, 3, 4, 5, 6])
  go_wp2_with fail
  refine hcall.mono ?_
  rintro e6 w6 ⟨rfl, o6, k6⟩
  clear hcall x4 xl o5
  have y5 := (o6.up 6).cell 5
  have yl := (o6.up 6).celLt
  have hcall := ordElig_spec (b := xq) (reb := reb) (C := s.X) (c := q1) rfl HpA.out (o6.re [2, 7, 0, 1, 3, 4, 5, 6])
  go_wp2_with fail
  refine hcall.mono ?_
  rintro e7 w7 ⟨rfl, o7, k7⟩
  clear hcall y5 yl o6
  rw [HC.out, HX.out] at o7
  have hcall := HCHO.out _ _ _ _ _ _ (o7.re [7, 8, 5, 11, 3, 1, 6, 4, 9, 10, 0, 2])
  go_wp2_with fail
  refine hcall.mono ?_
  rintro e8 w8 ⟨rfl, o8, k8⟩
  have K8 : Calm w w8 := K5.trans (k6.trans (k7.trans k8))
  clear hcall o7 K5 k6 k7 k8
  rcases HS.out with ⟨rfl, hst, _⟩ | ⟨j, why, len, rfl, hj0, hlen, hjH, l1, l2, hway, hst, q1, q2, q3, hI'⟩
  · have HST := Lib.hid hst
    clear hst HS HCHO
    have oK := o8.alloc (.cells #[.int .i64 (-1), .int .i64 (-1), .int .i64 6] 89)
    have t0 := oK.cell (T := 89) (vs := [.int .i64 (-1), .int .i64 (-1), .int .i64 6]) 0
    have t1 := oK.cell (T := 89) (vs := [.int .i64 (-1), .int .i64 (-1), .int .i64 6]) 1
    have t2 := oK.cell (T := 89) (vs := [.int .i64 (-1), .int .i64 (-1), .int .i64 6]) 2
    have i0 := Own.cell (T := 89) (vs := [.int .i64 (-1), .int .i64 (-1), .int .i64 6]) (oK.up 9) 0
    have i1 := Own.cell (T := 89) (vs := [.int .i64 (-1), .int .i64 (-1), .int .i64 6]) (oK.up 9) 1
    have i2 := Own.cell (T := 89) (vs := [.int .i64 (-1), .int .i64 (-1), .int .i64 6]) (oK.up 9) 2
    have n0 := (oK.up 1).cell 0
    have n1 := (oK.up 1).cell 1
    have n2 := (oK.up 1).cell 2
    have n3 := (oK.up 1).cell 3
    have n4 := (oK.up 1).cell 4
    have n5 := (oK.up 1).cell 5
    have n6 := (oK.up 1).cell 6
    have b0 := (oK.up 8).cell 0
    have b1 := (oK.up 8).cell 1
    have b2 := (oK.up 8).cell 2
    have b3 := (oK.up 8).cell 3
    have b4 := (oK.up 8).cell 4
    have b5 := (oK.up 8).cell 5
    have b6 := (oK.up 8).cell 6
    have bf := (oK.up 8).frozen
    have bl := (oK.up 8).celLt
    have oM0 := (oK.up 8).setCell 0 (.int .i64 (nu : Int))
    have oM1 := oM0.setCell 1 (.int .i64 (de : Int))
    have oM2 := oM1.setCell 2 (.pointer (some ⟨rq, 0, none⟩))
    have oM3 := oM2.setCell 3 (.pointer (some ⟨lp, 0, none⟩))
    have oM4 := oM3.setCell 4 (.pointer (some ⟨cq, 0, none⟩))
    have oM5 := oM4.setCell 5 (.pointer (some ⟨xq, 0, none⟩))
    have oM6 := oM5.setCell 6 (.map (some nb))
    have oM : Own _ (CqC b (nu : Int) (de : Int) rq lp cq xq nb :: _) := oM6
    clear oM0 oM1 oM2 oM3 oM4 oM5 oM6
    have u0 := Own.cell (T := 89) (vs := [.int .i64 (-1), .int .i64 (-1), .int .i64 6]) (oM.up 1) 0
    have u1 := Own.cell (T := 89) (vs := [.int .i64 (-1), .int .i64 (-1), .int .i64 6]) (oM.up 1) 1
    have u2 := Own.cell (T := 89) (vs := [.int .i64 (-1), .int .i64 (-1), .int .i64 6]) (oM.up 1) 2
    have z0 := Own.cell (T := 89) (vs := [.int .i64 0, .int .i64 0, .int .i64 0]) (oM.up 10) 0
    have z1 := Own.cell (T := 89) (vs := [.int .i64 0, .int .i64 0, .int .i64 0]) (oM.up 10) 1
    have z2 := Own.cell (T := 89) (vs := [.int .i64 0, .int .i64 0, .int .i64 0]) (oM.up 10) 2
    have zf := Own.frozen (T := 89) (vs := [.int .i64 0, .int .i64 0, .int .i64 0]) (oM.up 10)
    have zl := Own.celLt (T := 89) (vs := [.int .i64 0, .int .i64 0, .int .i64 0]) (oM.up 10)
    have oZ0 := Own.setCell (T := 89) (vs := [.int .i64 0, .int .i64 0, .int .i64 0]) (oM.up 10) 0 (.int .i64 (-1))
    have oZ1 := Own.setCell (T := 89) (vs := [.int .i64 (-1), .int .i64 0, .int .i64 0]) oZ0 1 (.int .i64 (-1))
    have oZ2 := Own.setCell (T := 89) (vs := [.int .i64 (-1), .int .i64 (-1), .int .i64 0]) oZ1 2 (.int .i64 6)
    have KM := qcalm_set (x := ⟨b, 6, none⟩) (v := .map (some nb)) (qcalm_set (x := ⟨b, 5, none⟩) (v := .pointer (some ⟨xq, 0, none⟩)) (qcalm_set (x := ⟨b, 4, none⟩) (v := .pointer (some ⟨cq, 0, none⟩)) (qcalm_set (x := ⟨b, 3, none⟩) (v := .pointer (some ⟨lp, 0, none⟩)) (qcalm_set (x := ⟨b, 2, none⟩) (v := .pointer (some ⟨rq, 0, none⟩)) (qcalm_set (x := ⟨b, 1, none⟩) (v := .int .i64 (de : Int)) (qcalm_set (x := ⟨b, 0, none⟩) (v := .int .i64 (nu : Int)) (qcalm_alloc (x := .cells #[.int .i64 (-1), .int .i64 (-1), .int .i64 6] 89) K8)))))))
    have KZ := qcalm_set (x := ⟨w.heap.size, 2, none⟩) (v := .int .i64 6) (qcalm_set (x := ⟨w.heap.size, 1, none⟩) (v := .int .i64 (-1)) (qcalm_set (x := ⟨w.heap.size, 0, none⟩) (v := .int .i64 (-1)) KM))
    unfold chIdle chV
    dsimp only
    go_wp2
    refine bodyPost_ret (v := .tuple #[chV ⟨-1, -1, 6⟩, .int .i64 0]) ?_ rfl ?_
    · exact chRow2 (p := w.heap.size) rfl rfl rfl oZ2
    · rw [HST.out]
      have oF := oZ2.re [0, 2, 3, 10, 11, 12] 6
      have oG := (LagR.le (Nat.le_succ N) (oF.re [2])).re [1, 2, 0]
      exact ⟨rfl, CqF.iff.2 ⟨rq, lp, cq, xq, nb, oG⟩, KZ⟩
  · have HST := Lib.hid hst
    clear hst HS HCHO
    obtain ⟨ix, hix, hidx⟩ := headOf_idx hjH
    obtain ⟨g, rfl, _⟩ := h1 _ _ (o8.up 6) ix _ hix
    have hin : ix < n := by have := (List.getElem?_eq_some_iff.1 hix).1; have := Hn.out; omega
    have oK := o8.alloc (.cells #[.int .i64 k, .int .i64 j, .int .i64 why] 89)
    have hcall := cqIndex_spec (f := j) (c := c) h1 Hn.out (by omega) (oK.re [7])
    rw [hidx] at hcall
    have HIX := Lib.hid hix
    have HQ1 := Lib.hid q1
    have HQ2 := Lib.hid q2
    have HQ3 := Lib.hid q3
    have HLEN := Lib.hid hlen
    have HJH := Lib.hid hjH
    have HW := Lib.hid hway
    have HI' := Lib.hid hI'
    clear hidx hix q1 q2 q3 hlen hjH hway hI'
    have jn : (j == -1) = false := by simp; omega
    have t0 := oK.cell (T := 89) (vs := [.int .i64 k, .int .i64 j, .int .i64 why]) 0
    have t1 := oK.cell (T := 89) (vs := [.int .i64 k, .int .i64 j, .int .i64 why]) 1
    have t2 := oK.cell (T := 89) (vs := [.int .i64 k, .int .i64 j, .int .i64 why]) 2
    have i0 := Own.cell (T := 89) (vs := [.int .i64 (-1), .int .i64 (-1), .int .i64 6]) (oK.up 9) 0
    have i1 := Own.cell (T := 89) (vs := [.int .i64 (-1), .int .i64 (-1), .int .i64 6]) (oK.up 9) 1
    have i2 := Own.cell (T := 89) (vs := [.int .i64 (-1), .int .i64 (-1), .int .i64 6]) (oK.up 9) 2
    unfold chV
    dsimp only
    go_wp2_with fail
    refine hcall.mono ?_
    rintro e9 w9 ⟨rfl, o9, k9⟩
    clear hcall t0 t1 t2 i0 i1 i2 oK o8
    obtain ⟨g', hg', _, hcell, _⟩ := h1 _ _ o9 ix _ HIX.out
    cases hg'
    rw [HLEN.out] at hcell
    have t0 := Own.cell (T := 89) (vs := [.int .i64 k, .int .i64 j, .int .i64 why]) (o9.up 1) 0
    have t1 := Own.cell (T := 89) (vs := [.int .i64 k, .int .i64 j, .int .i64 why]) (o9.up 1) 1
    have t2 := Own.cell (T := 89) (vs := [.int .i64 k, .int .i64 j, .int .i64 why]) (o9.up 1) 2
    have haw : 0 ≤ s.R.aw ∧ s.R.aw ≤ 1152921504606846976 := by have := hI.aw; have := hI.t.ok.tm; omega
    have hcall := cqServe_ok (num := (nu : Int)) (den := (de : Int)) HQ1.out HQ2.out haw HO.out.1 HO.out.2 (o9.re [2, 3, 6, 7])
    clear haw
    go_wp2_with fail
    refine hcall.mono ?_
    rintro e10 w10 ⟨rfl, o10, k10⟩
    have K10 : Calm w w10 := K8.trans ⟨k10.os.trans k9.os, k10.tape.trans k9.tape, k10.output.trans k9.output⟩
    clear K8 k9 k10 hcall hcell t0 t1 t2 o9
    obtain ⟨S', hS'⟩ : ∃ S', (chargeR reb s.R k len).2 = S' := ⟨_, rfl⟩
    obtain ⟨C', hC'⟩ : ∃ C', (servC reb C X ⟨k, j, why⟩ len).2.1 = C' := ⟨_, rfl⟩
    obtain ⟨X', hX'⟩ : ∃ X', (servC reb C X ⟨k, j, why⟩ len).2.2 = X' := ⟨_, rfl⟩
    rw [hS', hC', hX'] at o10
    have HS' := Lib.hid hS'
    have HC' := Lib.hid hC'
    have HX' := Lib.hid hX'
    clear hS' hC' hX'
    have o11 := o10.re [8, 6]
    clear o10
    generalize w8.heap.size = cb at *
    go_upto_region 19 with fail
    go_cut [13] (fun v wc => v = .bool (countC (nu : Int) (de : Int) s ⟨k, j, why⟩) ∧ Own wc (CqC b (nu : Int) (de : Int) rp lp cp xp nb :: LagR lp N s.D :: CqC tb (nu : Int) (de : Int) rq lp cq xq nb :: SfqR rq reb S' :: OrdR cq reb C' :: OrdR xq reb X' :: Sp :: cel cb 89 [.int .i64 k, .int .i64 j, .int .i64 why] :: mpI cntV nb s.n :: cel (w.heap.size + 1) 89 [.int .i64 (-1), .int .i64 (-1), .int .i64 6] :: cel w.heap.size 89 [.int .i64 0, .int .i64 0, .int .i64 0] :: R) ∧ Calm w wc)
    case first =>
      have t0 := Own.cell (T := 89) (vs := [.int .i64 k, .int .i64 j, .int .i64 why]) (o11.up 7) 0
      have hlead := leading_spec k o11
      cases hld : decide (lagO s.D k < 0) with
      | false =>
        rw [hld] at hlead
        have hcnt : countC (nu : Int) (de : Int) s ⟨k, j, why⟩ = false := by unfold countC; dsimp only; rw [hld]; rfl
        have HCN := Lib.hid hcnt
        clear hld hcnt
        go_wp2_with fail
        refine hlead.mono ?_
        rintro e11 w11 ⟨rfl, o12, k11⟩
        clear hlead
        go_wp2
        go_meet
        exact ⟨by rw [HCN.out], o12.re [11, 12] 2, K10.trans k11⟩
      | true =>
        rw [hld] at hlead
        rcases HW.out with ⟨rfl, _⟩ | ⟨rfl | rfl, _⟩ | ⟨rfl, _⟩
        · have hcnt : countC (nu : Int) (de : Int) s ⟨k, j, 1⟩ = keepsO (nu : Int) (de : Int) (cntO s.n k) := by unfold countC; dsimp only; rw [hld]; rfl
          have HCN := Lib.hid hcnt
          clear hld hcnt
          go_wp2_with fail
          refine hlead.mono ?_
          rintro e11 w11 ⟨rfl, o12, k11⟩
          clear hlead
          have hcn := hI.cnt k
          obtain ⟨cr, hcr⟩ := Int.eq_ofNat_of_zero_le hcn.1
          obtain ⟨cl, hcl⟩ := Int.eq_ofNat_of_zero_le hcn.2.2.1
          have hkp := keeps_spec (cr := cr) (cl := cl) k hnu hde (by omega) (by omega) (by rw [← hcr, ← hcl]) (o12.re [0, 8])
          rw [← HCN.out] at hkp
          clear hcn hcr hcl
          have u0 := Own.cell (T := 89) (vs := [.int .i64 k, .int .i64 j, .int .i64 1]) (o12.up 7) 0
          have u2 := Own.cell (T := 89) (vs := [.int .i64 k, .int .i64 j, .int .i64 1]) (o12.up 7) 2
          generalize countC (nu : Int) (de : Int) s ⟨k, j, 1⟩ = Z at *
          go_wp2_with fail
          refine hkp.mono ?_
          rintro e12 w12 ⟨rfl, o13, k12⟩
          clear hkp
          go_wp2
          go_meet
          exact ⟨rfl, o13.re [11, 12, 0, 2, 3, 4, 5, 6, 7, 8, 1] 2, K10.trans (k11.trans k12)⟩
        · have hcnt : countC (nu : Int) (de : Int) s ⟨k, j, 2⟩ = true := by unfold countC; dsimp only; rw [hld]; rfl
          have HCN := Lib.hid hcnt
          clear hld hcnt
          go_wp2_with fail
          refine hlead.mono ?_
          rintro e11 w11 ⟨rfl, o12, k11⟩
          clear hlead
          have u2 := Own.cell (T := 89) (vs := [.int .i64 k, .int .i64 j, .int .i64 2]) (o12.up 7) 2
          go_wp2
          go_meet
          exact ⟨by rw [HCN.out], o12.re [11, 12] 2, K10.trans k11⟩
        · have hcnt : countC (nu : Int) (de : Int) s ⟨k, j, 3⟩ = false := by unfold countC; dsimp only; rw [hld]; rfl
          have HCN := Lib.hid hcnt
          clear hld hcnt
          go_wp2_with fail
          refine hlead.mono ?_
          rintro e11 w11 ⟨rfl, o12, k11⟩
          clear hlead
          have u2 := Own.cell (T := 89) (vs := [.int .i64 k, .int .i64 j, .int .i64 3]) (o12.up 7) 2
          go_wp2
          go_meet
          exact ⟨by rw [HCN.out], o12.re [11, 12] 2, K10.trans k11⟩
        · have hcnt : countC (nu : Int) (de : Int) s ⟨k, j, 4⟩ = false := by unfold countC; dsimp only; rw [hld]; rfl
          have HCN := Lib.hid hcnt
          clear hld hcnt
          go_wp2_with fail
          refine hlead.mono ?_
          rintro e11 w11 ⟨rfl, o12, k11⟩
          clear hlead
          have u2 := Own.cell (T := 89) (vs := [.int .i64 k, .int .i64 j, .int .i64 4]) (o12.up 7) 2
          go_wp2
          go_meet
          exact ⟨by rw [HCN.out], o12.re [11, 12] 2, K10.trans k11⟩
    case rest =>
      obtain ⟨rfl, o12, k12⟩ := hcut
      clear o11 K10
      generalize hZ : countC (nu : Int) (de : Int) s ⟨k, j, why⟩ = Z
      have HZ := Lib.hid hZ
      clear hZ
      have c3 := o12.cell 3
      have cl := o12.celLt
      have t0 := Own.cell (T := 89) (vs := [.int .i64 k, .int .i64 j, .int .i64 why]) (o12.up 7) 0
      have t1 := Own.cell (T := 89) (vs := [.int .i64 k, .int .i64 j, .int .i64 why]) (o12.up 7) 1
      have hmv := lagMove_spec k j len (by omega) (o12.drew.re [1])
      rw [HQ3.out] at hmv
      go_wp2
      refine wp_region_tail 9 (by kernel_rfl) (by kernel_rfl) ?_
      simp only [List.take_succ_cons, List.take_zero, List.drop_succ_cons, List.drop_zero]
      repeat still_step
      refine wpStill_nil ?_
      go_wp2_with fail
      refine hmv.mono ?_
      rintro e13 w13 ⟨rfl, o13, k13⟩
      have K13 : Calm w w13 := k12.trans ⟨k13.os, k13.tape, k13.output⟩
      obtain ⟨D', hD'⟩ : ∃ D', (nMove s.D k j len).2 = D' := ⟨_, rfl⟩
      rw [hD'] at o13
      have HD' := Lib.hid hD'
      have hm' : (m : Int) ≤ 200000 := by omega
      clear hmv c3 cl t0 t1 k12 k13 o12 hD'
      have n0 := (o13.up 2).cell 0
      have n1 := (o13.up 2).cell 1
      have n2 := (o13.up 2).cell 2
      have n3 := (o13.up 2).cell 3
      have n4 := (o13.up 2).cell 4
      have n5 := (o13.up 2).cell 5
      have n6 := (o13.up 2).cell 6
      have b0 := (o13.up 1).cell 0
      have b1 := (o13.up 1).cell 1
      have b2 := (o13.up 1).cell 2
      have b3 := (o13.up 1).cell 3
      have b4 := (o13.up 1).cell 4
      have b5 := (o13.up 1).cell 5
      have b6 := (o13.up 1).cell 6
      have bf := (o13.up 1).frozen
      have bl := (o13.up 1).celLt
      have oM0 := (o13.up 1).setCell 0 (.int .i64 (nu : Int))
      have oM1 := oM0.setCell 1 (.int .i64 (de : Int))
      have oM2 := oM1.setCell 2 (.pointer (some ⟨rq, 0, none⟩))
      have oM3 := oM2.setCell 3 (.pointer (some ⟨lp, 0, none⟩))
      have oM4 := oM3.setCell 4 (.pointer (some ⟨cq, 0, none⟩))
      have oM5 := oM4.setCell 5 (.pointer (some ⟨xq, 0, none⟩))
      have oM6 := oM5.setCell 6 (.map (some nb))
      have oM : Own _ (CqC b (nu : Int) (de : Int) rq lp cq xq nb :: _) := oM6
      clear oM0 oM1 oM2 oM3 oM4 oM5 oM6
      have KM := qcalm_set (x := ⟨b, 6, none⟩) (v := .map (some nb)) (qcalm_set (x := ⟨b, 5, none⟩) (v := .pointer (some ⟨xq, 0, none⟩)) (qcalm_set (x := ⟨b, 4, none⟩) (v := .pointer (some ⟨cq, 0, none⟩)) (qcalm_set (x := ⟨b, 3, none⟩) (v := .pointer (some ⟨lp, 0, none⟩)) (qcalm_set (x := ⟨b, 2, none⟩) (v := .pointer (some ⟨rq, 0, none⟩)) (qcalm_set (x := ⟨b, 1, none⟩) (v := .int .i64 (de : Int)) (qcalm_set (x := ⟨b, 0, none⟩) (v := .int .i64 (nu : Int)) K13))))))
      go_upto_if 127 with fail
      go_cut [15] (fun _ wc => Own wc (CqC b (nu : Int) (de : Int) rq lp cq xq nb :: LagR lp (N + 1) D' :: mpI cntV nb (cntN Z s.n ⟨k, j, why⟩ len) :: SfqR rq reb S' :: OrdR cq reb C' :: OrdR xq reb X' :: Sp :: cel cb 89 [.int .i64 k, .int .i64 j, .int .i64 why] :: cel w.heap.size 89 [.int .i64 0, .int .i64 0, .int .i64 0] :: R) ∧ Calm w wc)
      case first =>
        clear HZ
        cases Z with
        | false =>
          have hcN : cntN false s.n ⟨k, j, why⟩ len = s.n := rfl
          have HCN := Lib.hid hcN
          clear hcN
          go_wp2
          go_meet
          rw [HCN.out]
          exact ⟨oM.re [2, 9, 0, 1, 8, 3, 4, 5, 6, 7, 10] 2, KM⟩
        | true =>
          have hcN : cntN true s.n ⟨k, j, why⟩ len = bumpC s.n ⟨k, j, why⟩ len := rfl
          have hcb := hI.cnt k
          have hbu : bumpC s.n ⟨k, j, why⟩ len = mput s.n k ((cntO s.n k).1 + len, if k = j then (cntO s.n k).2 + len else (cntO s.n k).2) := rfl
          rw [hbu] at hcN
          have hlk := fun (w : World) (R : List SP) (o : Own w (mpI cntV nb s.n :: R)) => lookC o k
          unfold cntV at hlk
          generalize cntO s.n k = cn at *
          obtain ⟨cr, cl⟩ := cn
          dsimp only at hcb hlk hcN
          have HLK := Lib.hid hlk
          clear hlk
          have HCN := Lib.hid hcN
          have wr := IntWalk.i64_in (cr + len) (by omega)
          have wl := IntWalk.i64_in (cl + len) (by omega)
          clear hcN hbu
          have b6 := oM.cell 6
          have bl := oM.celLt
          have t0 := Own.cell (T := 89) (vs := [.int .i64 k, .int .i64 j, .int .i64 why]) (oM.up 7) 0
          have t1 := Own.cell (T := 89) (vs := [.int .i64 k, .int .i64 j, .int .i64 why]) (oM.up 7) 1
          have tl := Own.celLt (T := 89) (vs := [.int .i64 k, .int .i64 j, .int .i64 why]) (oM.up 7)
          go_wp2
          refine wp_region_draws (fun L v wc => Own wc (Pb (L 7) (L 8) (v 7) 98 [.int .i64 0, .int .i64 0] [.int .i64 cr, .int .i64 cl] :: CqC b (nu : Int) (de : Int) rq lp cq xq nb :: LagR lp (N + 1) D' :: CqC tb (nu : Int) (de : Int) rq lp cq xq nb :: SfqR rq reb S' :: OrdR cq reb C' :: OrdR xq reb X' :: Sp :: cel cb 89 [.int .i64 k, .int .i64 j, .int .i64 why] :: mpI cntV nb s.n :: cel (w.heap.size + 1) 89 [.int .i64 (-1), .int .i64 (-1), .int .i64 6] :: cel w.heap.size 89 [.int .i64 0, .int .i64 0, .int .i64 0] :: R) ∧ Calm w wc ∧ OVals (fun i => ([some (.pointer (some ⟨b, 0, none⟩)), some (.pointer (some ⟨b, 0, none⟩)), some (.pointer (some ⟨b, 6, none⟩)), some (.map (some nb)), some (.pointer (some ⟨cb, 0, none⟩)), some (.int .i64 k), some (.agg #[.int .i64 cr, .int .i64 cl]), none, none] : List (Option Value)).getD i none) L v) (by kernel_rfl) (by kernel_rfl) (by kernel_rfl) ?h0 ?step ?fin
          case h0 => exact ⟨Pb.no oM.drew, qcalm_drew KM, OVals.no⟩
          case step =>
            refine ⟨DrawStep.mk rfl ?_, DrawStep.mk rfl ?_, DrawStep.mk rfl ?_, DrawStep.mk rfl ?_, DrawStep.mk rfl ?_, DrawStep.mk rfl ?_, DrawStep.mk rfl ?_, DrawStep.mk rfl ?_, DrawStep.mk rfl ?_, trivial⟩
            all_goals intro L v actZ wc hL hd hA hI K' hK
            all_goals obtain ⟨oD, kD, hv⟩ := hI
            all_goals simp [Region.binds] at hd
            all_goals have HV := Lib.hid hv
            all_goals clear hv
            · have c0_ := hA.base 0 (by rfl)
              simp only [List.getElem?_toArray, List.getElem?_cons_zero, Option.getD_some] at c0_
              go_simp
              exact hK.out (.pointer (some ⟨b, 0, none⟩)) _ ⟨oD, kD, HV.out.put 0 (fun _ h => some_eq h)⟩
            · have h0_ : L 0 = true := by simp [hd]
              have c128_ : actZ.tmps[128]?.getD undef = .pointer (some ⟨b, 0, none⟩) := (hA.get 0 h0_).trans (HV.out 0 _ rfl h0_)
              go_simp
              exact hK.out (.pointer (some ⟨b, 0, none⟩)) _ ⟨oD, kD, HV.out.put 1 (fun _ h => some_eq h)⟩
            · have h1_ : L 1 = true := by simp [hd]
              have c129_ : actZ.tmps[129]?.getD undef = .pointer (some ⟨b, 0, none⟩) := (hA.get 1 h1_).trans (HV.out 1 _ rfl h1_)
              go_simp
              exact hK.out (.pointer (some ⟨b, 6, none⟩)) _ ⟨oD, kD, HV.out.put 2 (fun _ h => some_eq h)⟩
            · have h2_ : L 2 = true := by simp [hd]
              have c130_ : actZ.tmps[130]?.getD undef = .pointer (some ⟨b, 6, none⟩) := (hA.get 2 h2_).trans (HV.out 2 _ rfl h2_)
              have u_ := (oD.up 1).cell 6
              go_simp
              exact hK.out (.map (some nb)) _ ⟨oD, kD, HV.out.put 3 (fun _ h => some_eq h)⟩
            · have c10_ := hA.base 10 (by rfl)
              simp only [List.getElem?_toArray, List.getElem?_cons_zero, List.getElem?_cons_succ, Option.getD_some] at c10_
              go_simp
              exact hK.out (.pointer (some ⟨cb, 0, none⟩)) _ ⟨oD, kD, HV.out.put 4 (fun _ h => some_eq h)⟩
            · have h4_ : L 4 = true := by simp [hd]
              have c132_ : actZ.tmps[132]?.getD undef = .pointer (some ⟨cb, 0, none⟩) := (hA.get 4 h4_).trans (HV.out 4 _ rfl h4_)
              have u_ := Own.cell (T := 89) (vs := [.int .i64 k, .int .i64 j, .int .i64 why]) (oD.up 8) 0
              go_simp
              exact hK.out (.int .i64 k) _ ⟨oD, kD, HV.out.put 5 (fun _ h => some_eq h)⟩
            · have h3_ : L 3 = true := by simp [hd]
              have c131_ : actZ.tmps[131]?.getD undef = .map (some nb) := (hA.get 3 h3_).trans (HV.out 3 _ rfl h3_)
              have h5_ : L 5 = true := by simp [hd]
              have c133_ : actZ.tmps[133]?.getD undef = .int .i64 k := (hA.get 5 h5_).trans (HV.out 5 _ rfl h5_)
              have u_ := HLK.out _ _ (oD.up 9)
              go_simp
              exact hK.out (.agg #[.int .i64 cr, .int .i64 cl]) _ ⟨oD, kD, HV.out.put 6 (fun _ h => some_eq h)⟩
            · rw [hL] at oD
              go_simp
              exact hK.out _ _ ⟨Pb.new oD, qcalm_alloc kD, HV.out.put 7 (fun _ h => by cases h)⟩
            · have h7_ : L 7 = true := by simp [hd]
              have c15_ := hA.get 7 h7_
              have h6_ : L 6 = true := by simp [hd]
              have c134_ : actZ.tmps[134]?.getD undef = .agg #[.int .i64 cr, .int .i64 cl] := (hA.get 6 h6_).trans (HV.out 6 _ rfl h6_)
              rw [h7_, hL] at oD
              obtain ⟨gN, hgN, oN⟩ := Pb.val oD
              rw [hgN] at c15_
              have hgN := Lib.hid hgN
              have n0_ := oN.cell 0
              have n1_ := oN.cell 1
              have nf_ := oN.frozen
              have nl_ := oN.celLt
              go_simp
              have oY := (oN.setCell 0 (.int .i64 cr)).setCell 1 (.int .i64 cl)
              have oQ := Pb.put (l := L 7) (v := v 7) (zs := [.int .i64 0, .int .i64 0]) oY h7_ hgN.out
              exact hK.out undef _ ⟨oQ, qcalm_set (qcalm_set kD), HV.out.put 8 (fun _ h => by cases h)⟩
          case fin =>
            rintro L v wc hall ⟨oD, kD, hv⟩
            rw [hall 7 (by decide), hall 8 (by decide)] at oD
            obtain ⟨gN, hgN, oN⟩ := Pb.got oD
            clear hv hall oD oM KM
            simp only [putAll, Act.put, List.setIfInBounds_toArray, List.set_cons_zero, List.set_cons_succ]
            have n0 := oN.cell 0
            have n1 := oN.cell 1
            have nf := oN.frozen
            have nl := oN.celLt
            have oP := oN.setCell 0 (.int .i64 (cr + len))
            have p0 := oP.cell 0
            have p1 := oP.cell 1
            have pf := oP.frozen
            have pl := oP.celLt
            have x0 := Own.cell (T := 89) (vs := [.int .i64 k, .int .i64 j, .int .i64 why]) (oP.up 8) 0
            have x1 := Own.cell (T := 89) (vs := [.int .i64 k, .int .i64 j, .int .i64 why]) (oP.up 8) 1
            have KP := qcalm_set (x := ⟨gN, 0, none⟩) (v := .int .i64 (cr + len)) kD
            clear kD b6 bl t0 t1 tl
            by_cases hkj : k = j
            · have hb : (k == j) = true := by simpa using hkj
              have hcN := HCN.out
              rw [if_pos hkj] at hcN
              have HCN := Lib.hid hcN
              clear hkj hcN
              have oQ := oP.setCell 1 (.int .i64 (cl + len))
              have q0 := oQ.cell 0
              have q1 := oQ.cell 1
              have y0 := Own.cell (T := 89) (vs := [.int .i64 k, .int .i64 j, .int .i64 why]) (oQ.up 8) 0
              have y6 := (oQ.up 1).cell 6
              have yl := (oQ.up 1).celLt
              have KQ := qcalm_set (x := ⟨gN, 1, none⟩) (v := .int .i64 (cl + len)) KP
              go_wp2
              refine wp_region_tail 7 (by kernel_rfl) (by kernel_rfl) ?_
              simp only [List.take_succ_cons, List.take_zero, List.drop_succ_cons, List.drop_zero]
              repeat still_step
              refine wpStill_nil ?_
              go_wp2_with (at_mapUpdate; refine wpList_mapUpdate_mpI (f := cntV) rfl _ _ _ rfl Tryz.underlying66 Tryz.underlying3 ((oQ.up 9).drew) k (cr + len, cl + len) rfl rfl rfl ?c1)
              case c1 =>
              intro w5 o5 k5
              have K5 := (qcalm_drew KQ).trans k5
              go_wp2
              go_meet
              rw [HCN.out]
              exact ⟨o5.re [1, 4, 10, 2, 3, 0] 3, K5⟩
            · have hb : (k == j) = false := by simpa using hkj
              have hcN := HCN.out
              rw [if_neg hkj] at hcN
              have HCN := Lib.hid hcN
              clear hkj hcN
              have y6 := (oP.up 1).cell 6
              have yl := (oP.up 1).celLt
              go_wp2
              refine wp_region_tail 7 (by kernel_rfl) (by kernel_rfl) ?_
              simp only [List.take_succ_cons, List.take_zero, List.drop_succ_cons, List.drop_zero]
              repeat still_step
              refine wpStill_nil ?_
              go_wp2_with (at_mapUpdate; refine wpList_mapUpdate_mpI (f := cntV) rfl _ _ _ rfl Tryz.underlying66 Tryz.underlying3 ((oP.up 9).drew) k (cr + len, cl) rfl rfl rfl ?c1)
              case c1 =>
              intro w5 o5 k5
              have K5 := (qcalm_drew KP).trans k5
              go_wp2
              go_meet
              rw [HCN.out]
              exact ⟨o5.re [1, 4, 10, 2, 3, 0] 3, K5⟩
      case rest =>
        obtain ⟨o14, k14⟩ := hcut
        clear KM oM o13 K13
        have hu : Uniq (cntN Z s.n ⟨k, j, why⟩ len) := by
          unfold cntN bumpC
          split
          · exact hI.nu.mput _ _
          · exact hI.nu
        have hrs := reset_spec hu o14
        clear hu
        go_wp2_with fail
        refine hrs.mono ?_
        rintro e15 w15 ⟨rfl, o15, k15⟩
        clear hrs o14
        have K15 := k14.trans k15
        clear k14 k15
        have x0 := Own.cell (T := 89) (vs := [.int .i64 k, .int .i64 j, .int .i64 why]) (o15.up 7) 0
        have x1 := Own.cell (T := 89) (vs := [.int .i64 k, .int .i64 j, .int .i64 why]) (o15.up 7) 1
        have x2 := Own.cell (T := 89) (vs := [.int .i64 k, .int .i64 j, .int .i64 why]) (o15.up 7) 2
        have z0 := Own.cell (T := 89) (vs := [.int .i64 0, .int .i64 0, .int .i64 0]) (o15.up 8) 0
        have z1 := Own.cell (T := 89) (vs := [.int .i64 0, .int .i64 0, .int .i64 0]) (o15.up 8) 1
        have z2 := Own.cell (T := 89) (vs := [.int .i64 0, .int .i64 0, .int .i64 0]) (o15.up 8) 2
        have zf := Own.frozen (T := 89) (vs := [.int .i64 0, .int .i64 0, .int .i64 0]) (o15.up 8)
        have zl := Own.celLt (T := 89) (vs := [.int .i64 0, .int .i64 0, .int .i64 0]) (o15.up 8)
        have oZ0 := Own.setCell (T := 89) (vs := [.int .i64 0, .int .i64 0, .int .i64 0]) (o15.up 8) 0 (.int .i64 k)
        have oZ1 := Own.setCell (T := 89) (vs := [.int .i64 k, .int .i64 0, .int .i64 0]) oZ0 1 (.int .i64 j)
        have oZ2 := Own.setCell (T := 89) (vs := [.int .i64 k, .int .i64 j, .int .i64 0]) oZ1 2 (.int .i64 why)
        clear oZ0 oZ1
        have KZ := qcalm_set (x := ⟨w.heap.size, 2, none⟩) (v := .int .i64 why) (qcalm_set (x := ⟨w.heap.size, 1, none⟩) (v := .int .i64 j) (qcalm_set (x := ⟨w.heap.size, 0, none⟩) (v := .int .i64 k) K15))
        go_wp2
        refine bodyPost_ret (v := .tuple #[chV ⟨k, j, why⟩, .int .i64 0]) ?_ rfl ?_
        · exact chRow2 (p := w.heap.size) rfl rfl rfl oZ2
        · rw [HST.out]
          have oG := oZ2.re [0, 8] 2
          have oH := oG.re [0, 3, 1, 2, 4, 5, 6]
          unfold nextC
          dsimp only
          rw [HS'.out, HC'.out, HX'.out, HD'.out, HZ.out]
          exact ⟨rfl, CqF.iff.2 ⟨rq, lp, cq, xq, nb, oH⟩, KZ⟩
end
end Go.Proofs.YtjpahfkchhnpoaaGreat

/- Cifq: New, Join. -/
namespace Go.Proofs.YtjpahfkchhnpoaaGreat
open Go.RowKit
open SP
section
variable {w w' : World} {R : List SP} {b rp lp cp xp nb N : Nat} {num den reb : Int} {s : Cq} {Sp : SP}

structure AlOk (nu de : Nat) : Prop where
  pos : 0 < nu
  lt : nu < de
  le : de ≤ 1048576

set_option maxHeartbeats 800000 in
theorem validAlpha_ok {nu de : Nat} (h : AlOk nu de) (o : Own w R) : Calls Tryz.prog 15 #[.agg #[.int .i64 (nu : Int), .int .i64 (de : Int)]] w (Ret (.bool true) R w) := by
  have h1 : (0 : Int) < (nu : Int) := by have := h.pos; omega
  have h2 : (nu : Int) < (de : Int) := by have := h.lt; omega
  have h3 : (de : Int) ≤ 1048576 := by have := h.le; omega
  have d1 : decide ((0 : Int) < (nu : Int)) = true := by simpa using h1
  have d2 : decide ((nu : Int) < (de : Int)) = true := by simpa using h2
  have d3 : decide ((de : Int) ≤ 1048576) = true := by simpa using h3
  go_enter Tryz.func15, Tryz.ntmps15
  go_wp2
  go_ret
  exact ⟨by simp [], o.alloc _ |>.drop, ⟨rfl, rfl, rfl⟩⟩

theorem ordNew_spec (r : Int) (h1 : 1 ≤ r) (h2 : r ≤ 1099511627776) (o : Own w R) :
    Calls Tryz.prog 20 #[.int .i64 r] w fun e w' => ∃ b, Ret (.tuple #[.pointer (some ⟨b, 0, none⟩), .int .i64 0]) (OrdR b r ⟨[], [], 0⟩ :: R) w e w' := compNew_spec r h1 h2 o

set_option maxHeartbeats 3200000 in
set_option maxRecDepth 100000 in
theorem cqNew_spec {nu de : Nat} (h : AlOk nu de) (r : Int) (h1 : 1 ≤ r) (h2 : r ≤ 1099511627776) (o : Own w R) :
    Calls Tryz.prog 7 #[.agg #[.int .i64 (nu : Int), .int .i64 (de : Int)], .int .i64 r] w
      fun e w' => ∃ b, Ret (.tuple #[.pointer (some ⟨b, 0, none⟩), .int .i64 0]) (CqF b (nu : Int) (de : Int) r 0 cq0 :: R) w e w' := by
  have hmm := @run_makeMap Tryz.prog
  have oA : Own _ (cel w.heap.size 24 [.int .i64 (nu : Int), .int .i64 (de : Int)] :: R) := o.alloc (.cells #[.int .i64 (nu : Int), .int .i64 (de : Int)] 24)
  go_enter Tryz.func7, Tryz.ntmps7
  go_wp2_with fail
  refine (sfqNew_spec r h1 h2 oA).mono ?_
  rintro e1 w1 ⟨rp, rfl, o1, k1⟩
  have c0 := (o1.up 1).cell 0
  have c1 := (o1.up 1).cell 1
  go_wp2_with fail
  refine (validAlpha_ok h o1).mono ?_
  rintro e2 w2 ⟨rfl, o2, k2⟩
  have K2 : Calm w w2 := (qcalm_alloc (Calm.refl w)).trans (k1.trans k2)
  clear c0 c1
  have c0 := (o2.up 1).cell 0
  have c1 := (o2.up 1).cell 1
  go_upto_region 4 with fail
  go_cut [8] (fun v wc => ∃ sb lp nb : Nat, v = .pointer (some ⟨sb, 0, none⟩) ∧ Own wc (cel sb 69 [.int .i64 (nu : Int), .int .i64 (de : Int), .pointer (some ⟨rp, 0, none⟩), .pointer (some ⟨lp, 0, none⟩), .pointer none, .pointer none, .map (some nb)] :: LagR lp 0 [] :: mpI cntV nb [] :: SfqR rp r ⟨[], fun _ => 0, 0, 0⟩ :: R) ∧ Calm w wc)
  case first =>
    have oX1 : Own w2.drew _ := o2.drew
    have oX2 : Own _ _ := (o2.drew).mpI_made (f := cntV) (α := Int × Int)
    have g0 := (oX2.up 2).cell 0
    have g1 := (oX2.up 2).cell 1
    go_region_held3 (fun w' => w'.cell? ⟨w.heap.size, 0, none⟩ = some (.int .i64 (nu : Int)) ∧ w'.cell? ⟨w.heap.size, 1, none⟩ = some (.int .i64 (de : Int))) (go_keep) (first | (go_at_call 19; first | (refine (lagNew_spec oX1).mono ?_; rintro _ w3 ⟨lp, rfl, o3, k3⟩; have d0 := (o3.up 2).cell 0; have d1 := (o3.up 2).cell 1; have oY := o3.mpI_made (f := cntV) (α := Int × Int); have e0 := (oY.up 3).cell 0; have e1 := (oY.up 3).cell 1) | (refine (lagNew_spec oX2).mono ?_; rintro _ w3 ⟨lp, rfl, o3, k3⟩; have d0 := (o3.up 3).cell 0; have d1 := (o3.up 3).cell 1)))
    all_goals go_wp2
    all_goals go_meet
    · have oZ := oY.alloc (.cells #[.int .i64 (nu : Int), .int .i64 (de : Int), .pointer (some ⟨rp, 0, none⟩), .pointer (some ⟨lp, 0, none⟩), .pointer none, .pointer none, .map (some w3.heap.size)] 69)
      simp only [World.size_alloc] at oZ
      exact ⟨w3.heap.size + 1, lp, w3.heap.size, rfl, (oZ.re [4, 0, 2, 1, 3] 1), qcalm_alloc (qcalm_alloc (K2.trans ((qcalm_drew (Calm.refl w2)).trans k3)))⟩
    · have oZ := o3.alloc (.cells #[.int .i64 (nu : Int), .int .i64 (de : Int), .pointer (some ⟨rp, 0, none⟩), .pointer (some ⟨lp, 0, none⟩), .pointer none, .pointer none, .map (some w2.heap.size)] 69)
      exact ⟨w3.heap.size, lp, w2.heap.size, rfl, (oZ.re [4, 0, 1, 2, 3] 1), qcalm_alloc (K2.trans ((qcalm_alloc (qcalm_drew (Calm.refl w2))).trans k3))⟩
  case rest =>
    obtain ⟨sb, lp, nb, rfl, oS, kS⟩ := hcut
    clear o2 K2 c0 c1 o1 k1 k2 oA
    go_wp2_with fail
    refine (ordNew_spec r h1 h2 oS).mono ?_
    rintro e3 w3 ⟨cp, rfl, o3, k3⟩
    have x4 := (o3.up 1).cell 4
    have xf := (o3.up 1).frozen
    have xl := (o3.up 1).celLt
    have oT := (o3.up 1).setCell 4 (.pointer (some ⟨cp, 0, none⟩))
    have K3 := qcalm_set (x := ⟨sb, 4, none⟩) (v := .pointer (some ⟨cp, 0, none⟩)) (kS.trans k3)
    clear oS kS k3
    go_wp2_with fail
    refine (ordNew_spec r h1 h2 oT).mono ?_
    rintro e4 w4 ⟨xp, rfl, o4, k4⟩
    have y5 := (o4.up 1).cell 5
    have yf := (o4.up 1).frozen
    have yl := (o4.up 1).celLt
    have oU := (o4.up 1).setCell 5 (.pointer (some ⟨xp, 0, none⟩))
    have K4 := qcalm_set (x := ⟨sb, 5, none⟩) (v := .pointer (some ⟨xp, 0, none⟩)) (K3.trans k4)
    clear oT K3 k4
    go_wp2
    go_ret2
    exact ⟨sb, rfl, CqF.iff.2 ⟨rp, lp, cp, xp, nb, oU.re [0, 5, 3, 4, 2, 1]⟩, K4⟩

set_option maxHeartbeats 1600000 in
set_option maxRecDepth 100000 in
/-- A flow joins without an error. -/
theorem cqJoin_ok (f wt : Int) (h1 : joinE s.R f wt = 0) (h2 : (nJoin s.D f wt).1 = 0) (o : Own w (CqF b num den reb N s :: R)) :
    Calls Tryz.prog 24 #[.pointer (some ⟨b, 0, none⟩), .int .i64 f, .int .i64 wt] w (Ret (.int .i64 0) (CqF b num den reb N { s with R := joinS s.R f wt, D := (nJoin s.D f wt).2 } :: R) w) := by
  obtain ⟨rp, lp, cp, xp, nb, o1⟩ := CqF.iff.1 o
  have c2 := o1.cell 2
  have cl := o1.celLt
  have hq := sfqJoin_spec f wt (o1.re [1])
  unfold joinR at hq
  rw [if_pos h1, h1] at hq
  dsimp only at hq
  go_enter Tryz.func24, Tryz.ntmps24
  go_wp2_with fail
  refine hq.mono ?_
  rintro e1 w1 ⟨rfl, o2, k2⟩
  clear hq c2 cl o1
  have c3 := (o2.up 1).cell 3
  have cl := (o2.up 1).celLt
  have hq := lagJoin_spec f wt (o2.re [2])
  rw [h2] at hq
  go_wp2_with fail
  refine hq.mono ?_
  rintro e3 w3 ⟨rfl, o3, k3⟩
  go_wp2
  go_ret
  exact ⟨rfl, CqF.iff.2 ⟨rp, lp, cp, xp, nb, o3.re [2, 1, 0]⟩, k2.trans k3⟩
end
end Go.Proofs.YtjpahfkchhnpoaaGreat

/- The reference's comparison of products; the closed form of leading flows. -/
namespace Go.Proofs.YtjpahfkchhnpoaaGreat
open Go.RowKit
open SP
section
variable {w w' : World} {R : List SP}

set_option maxHeartbeats 800000 in
theorem refLess_spec (x y : Nat) (o : Own w R) : Calls Tryz.prog 122 #[wideV x, wideV y] w (Ret (.bool (decide (x < y))) R w) := by
  unfold wideV
  go_enter Tryz.func122, Tryz.ntmps122
  go_wp2
  go_ret
  exact ⟨rfl, (o.alloc _).drop.alloc _ |>.drop, ⟨rfl, rfl, rfl⟩⟩

set_option maxHeartbeats 1600000 in
set_option maxRecDepth 100000 in
theorem refCross_spec (a b c d : Nat) (ha : a < 9223372036854775808) (hb : b < 4294967296) (hc : c < 9223372036854775808) (hd : d < 4294967296) (h1 : a * b < 9223372036854775808) (h2 : c * d < 9223372036854775808) (o : Own w R) :
    Calls Tryz.prog 101 #[.int .u64 (a : Int), .int .u64 (b : Int), .int .u64 (c : Int), .int .u64 (d : Int)] w (Ret (.int .i64 (cmpZ ((a * b : Nat) : Int) ((c * d : Nat) : Int))) R w) := by
  have m1 := refMul_spec a b ha hb h1 o
  have m2 := fun (w : World) (R : List SP) (o : Own w R) => refMul_spec c d hc hd h2 o
  generalize a * b = x at *
  generalize c * d = y at *
  have M2 := Lib.hid m2
  clear m2
  go_enter Tryz.func101, Tryz.ntmps101
  go_wp2_with fail
  refine m1.mono ?_
  rintro e1 w1 ⟨rfl, o1, k1⟩
  go_wp2_with fail
  refine (M2.out _ _ o1).mono ?_
  rintro e2 w2 ⟨rfl, o2, k2⟩
  clear m1
  have oA := (o2.alloc (.cells #[.int .u64 0, .int .u64 (x : Int)] 172)).alloc (.cells #[.int .u64 0, .int .u64 (y : Int)] 172)
  simp only [World.size_alloc] at oA
  have q0 := Own.cell (T := 172) (vs := [.int .u64 0, .int .u64 (y : Int)]) oA 0
  have q1 := Own.cell (T := 172) (vs := [.int .u64 0, .int .u64 (y : Int)]) oA 1
  have p0 := Own.cell (T := 172) (vs := [.int .u64 0, .int .u64 (x : Int)]) (oA.up 1) 0
  have p1 := Own.cell (T := 172) (vs := [.int .u64 0, .int .u64 (x : Int)]) (oA.up 1) 1
  have hc1 := refLess_spec x y oA
  unfold wideV at hc1
  have K2 : Calm w w2 := k1.trans k2
  by_cases hxy : x < y
  · have hd : decide (x < y) = true := by simpa using hxy
    rw [hd] at hc1
    have hz : cmpZ (x : Int) (y : Int) = -1 := by unfold cmpZ; rw [if_pos (by omega)]
    have HZ := Lib.hid hz
    clear hxy hd hz
    go_wp2_with fail
    refine hc1.mono ?_
    rintro e3 w3 ⟨rfl, o3, k3⟩
    go_wp2
    go_ret
    exact ⟨by rw [HZ.out]; rfl, o3.drop.drop, (qcalm_alloc (qcalm_alloc K2)).trans k3⟩
  · have hd : decide (x < y) = false := by simpa using hxy
    rw [hd] at hc1
    have HN := Lib.hid hxy
    clear hxy hd
    go_wp2_with fail
    refine hc1.mono ?_
    rintro e3 w3 ⟨rfl, o3, k3⟩
    have r0 := Own.cell (T := 172) (vs := [.int .u64 0, .int .u64 (y : Int)]) o3 0
    have r1 := Own.cell (T := 172) (vs := [.int .u64 0, .int .u64 (y : Int)]) o3 1
    have s0 := Own.cell (T := 172) (vs := [.int .u64 0, .int .u64 (x : Int)]) (o3.up 1) 0
    have s1 := Own.cell (T := 172) (vs := [.int .u64 0, .int .u64 (x : Int)]) (o3.up 1) 1
    have hc2 := refLess_spec y x o3
    unfold wideV at hc2
    by_cases hyx : y < x
    · have hd : decide (y < x) = true := by simpa using hyx
      rw [hd] at hc2
      have hz : cmpZ (x : Int) (y : Int) = 1 := by have := HN.out; unfold cmpZ; rw [if_neg (by omega), if_pos (by omega)]
      have HZ := Lib.hid hz
      clear hyx hd hz
      go_wp2_with fail
      refine hc2.mono ?_
      rintro e4 w4 ⟨rfl, o4, k4⟩
      go_wp2
      go_ret
      exact ⟨by rw [HZ.out]; rfl, o4.drop.drop, ((qcalm_alloc (qcalm_alloc K2)).trans k3).trans k4⟩
    · have hd : decide (y < x) = false := by simpa using hyx
      rw [hd] at hc2
      have hz : cmpZ (x : Int) (y : Int) = 0 := by have := HN.out; unfold cmpZ; rw [if_neg (by omega), if_neg (by omega)]
      have HZ := Lib.hid hz
      clear hyx hd hz
      go_wp2_with fail
      refine hc2.mono ?_
      rintro e4 w4 ⟨rfl, o4, k4⟩
      go_wp2
      go_ret
      exact ⟨by rw [HZ.out]; rfl, o4.drop.drop, ((qcalm_alloc (qcalm_alloc K2)).trans k3).trans k4⟩

set_option maxHeartbeats 800000 in
theorem vAlpha22_ok {nu de : Nat} (h : AlOk nu de) (o : Own w R) : Calls Tryz.prog 16 #[.agg #[.int .i64 (nu : Int), .int .i64 (de : Int)]] w (Ret (.bool true) R w) := by
  have h1 : (0 : Int) < (nu : Int) := by have := h.pos; omega
  have h2 : (nu : Int) < (de : Int) := by have := h.lt; omega
  have h3 : (de : Int) ≤ 1048576 := by have := h.le; omega
  have d1 : decide ((0 : Int) < (nu : Int)) = true := by simpa using h1
  have d2 : decide ((nu : Int) < (de : Int)) = true := by simpa using h2
  have d3 : decide ((de : Int) ≤ 1048576) = true := by simpa using h3
  go_enter Tryz.func16, Tryz.ntmps16
  go_wp2
  go_ret
  exact ⟨by simp [], o.alloc _ |>.drop, ⟨rfl, rfl, rfl⟩⟩
end
end Go.Proofs.YtjpahfkchhnpoaaGreat

/- The reference of cifq: New, Join, SetWeight, Leave. -/
namespace Go.Proofs.YtjpahfkchhnpoaaGreat
open Go.RowKit
open SP
section
variable {w w' : World} {R : List SP} {b rp lp cp xp N : Nat} {num den reb : Int} {P S : SP} {D : List Tg} {cs : List (Int × Int)} {s : Cq}

/-- What the reference keeps besides: the old tags, the tags of both orders, the counts. -/
structure KqG where
  O : List Tg
  tC : List Int
  tX : List Int
  cs : List (Int × Int)
def KqT (P S : SP) (b : Nat) (num den reb : Int) (s : Cq) (g : KqG) : SP := ex fun (p : (Nat × Nat) × (Nat × Nat)) =>
  st [KqC b num den reb p.1.1 p.1.2 p.2.1 p.2.2 g.cs, RefT P p.1.1 reb s.R.L g.O s.R.tm s.R.aw, LedR P p.1.2 s.D, RefR S p.2.1 reb s.C.el g.tC s.C.tm, RefR S p.2.2 reb s.X.el g.tX s.X.tm]
theorem KqT.iff {g : KqG} : Own w (KqT P S b num den reb s g :: R) ↔ ∃ rp lp cp xp, Own w (KqC b num den reb rp lp cp xp g.cs :: RefT P rp reb s.R.L g.O s.R.tm s.R.aw :: LedR P lp s.D :: RefR S cp reb s.C.el g.tC s.C.tm :: RefR S xp reb s.X.el g.tX s.X.tm :: R) := by
  constructor
  · intro o
    obtain ⟨⟨⟨rp, lp⟩, cp, xp⟩, h⟩ := Own.ex.1 o
    exact ⟨rp, lp, cp, xp, Own.st.1 h⟩
  · rintro ⟨rp, lp, cp, xp, h⟩
    exact Own.ex.2 ⟨((rp, lp), cp, xp), Own.st.2 h⟩
structure KqRel (N : Nat) (s : Cq) (g : KqG) : Prop where
  r : RelT N s.R g.O
  c : CsRel s.C.el s.C.tg s.C.tm g.tC s.C.tm
  x : CsRel s.X.el s.X.tg s.X.tm g.tX s.X.tm
  cl : g.cs.length = 32
  cn : ∀ f : Nat, f < 32 → g.cs.getD f (0, 0) = cntO s.n (f : Int)
def kq0 : KqG := ⟨[], List.replicate 32 0, List.replicate 32 0, List.replicate 32 (0, 0)⟩
theorem KqRel.start : KqRel 0 cq0 kq0 := ⟨RelT.start, CsRel.start, CsRel.start, List.length_replicate, fun f hf => by
  show (List.replicate 32 ((0 : Int), (0 : Int))).getD f (0, 0) = (0, 0)
  rw [List.getD_eq_getElem?_getD, List.getElem?_replicate, if_pos hf]; rfl⟩

set_option maxHeartbeats 3200000 in
set_option maxRecDepth 100000 in
theorem kqNew_spec {nu de : Nat} (h : AlOk nu de) (r : Int) (h1 : 1 ≤ r) (h2 : r ≤ 1099511627776) (o : Own w (P :: S :: R)) :
    Calls Tryz.prog 8 #[.agg #[.int .i64 (nu : Int), .int .i64 (de : Int)], .int .i64 r] w
      fun e w' => ∃ b, Ret (.tuple #[.pointer (some ⟨b, 0, none⟩), .int .i64 0]) (KqT P S b (nu : Int) (de : Int) r cq0 kq0 :: P :: S :: R) w e w' := by
  have oA : Own _ (cel w.heap.size 24 [.int .i64 (nu : Int), .int .i64 (de : Int)] :: P :: S :: R) := o.alloc (.cells #[.int .i64 (nu : Int), .int .i64 (de : Int)] 24)
  go_enter Tryz.func8, Tryz.ntmps8
  go_wp2_with fail
  refine (refNew12_spec (P := P) r h1 h2 oA).mono ?_
  rintro e1 w1 ⟨rp, rfl, o1, k1⟩
  go_wp2_with fail
  refine (refNew_spec (S := S) r h1 h2 o1).mono ?_
  rintro e2 w2 ⟨cp, rfl, o2, k2⟩
  go_wp2_with fail
  refine (refNew_spec (S := S) r h1 h2 o2).mono ?_
  rintro e3 w3 ⟨xp, rfl, o3, k3⟩
  have c0 := (o3.up 3).cell 0
  have c1 := (o3.up 3).cell 1
  go_wp2_with fail
  refine (vAlpha22_ok h o3).mono ?_
  rintro e4 w4 ⟨rfl, o4, k4⟩
  clear c0 c1
  have c0 := (o4.up 3).cell 0
  have c1 := (o4.up 3).cell 1
  have oL := o4.alloc (.cells #[.slice none 0 0] 78)
  have oK := oL.alloc (.cells (kqCells (nu : Int) (de : Int) r rp w4.heap.size cp xp (List.replicate 32 (0, 0))).toArray 54)
  rw [World.size_alloc] at oK
  have hz : ((((((Tryz.zeroCells54.setIfInBounds 0 (.int .i64 (nu : Int))).setIfInBounds 1 (.int .i64 (de : Int))).setIfInBounds 2 (.int .i64 r)).setIfInBounds 3 (.pointer (some ⟨rp, 0, none⟩))).setIfInBounds 4 (.pointer (some ⟨w4.heap.size, 0, none⟩))).setIfInBounds 5 (.pointer (some ⟨cp, 0, none⟩))).setIfInBounds 6 (.pointer (some ⟨xp, 0, none⟩)) = (kqCells (nu : Int) (de : Int) r rp w4.heap.size cp xp (List.replicate 32 (0, 0))).toArray := by rfl
  rw [← hz] at oK
  have HZ := Lib.hid hz
  clear hz
  go_wp2
  go_ret2
  refine ⟨w4.heap.size + 1, rfl, KqT.iff.2 ⟨rp, w4.heap.size, cp, xp, ?_⟩, qcalm_alloc (qcalm_alloc ((qcalm_alloc (Calm.refl w)).trans (k1.trans (k2.trans (k3.trans k4)))))⟩
  rw [HZ.out] at oK ⊢
  have oL2 : Own _ (LedR P w4.heap.size [] :: _) := LedR.start (oK.re [1])
  exact (oL2.re [5] 1).re [1, 4, 0, 3, 2]
end
end Go.Proofs.YtjpahfkchhnpoaaGreat

/- The reference of cifq: Join, SetWeight, Leave. -/
namespace Go.Proofs.YtjpahfkchhnpoaaGreat
open Go.RowKit
open SP
section
variable {w w' : World} {R : List SP} {b rp lp cp xp N M : Nat} {num den reb : Int} {P S : SP} {s : Cq} {g : KqG}

/-- What a call of the reference does. -/
def KqDoes (num den reb : Int) (s : Cq) (g : KqG) (fn : Nat) (args : Value → Array Value) (v : Value) (s' : Cq) (g' : KqG) : Prop :=
  ∀ (P S : SP) (b : Nat) (w : World) (R : List SP), Own w (KqT P S b num den reb s g :: P :: S :: R) → Calls Tryz.prog fn (args (.pointer (some ⟨b, 0, none⟩))) w
    (fun e w' => ∃ P' S', Ret v (KqT P' S' b num den reb s' g' :: P' :: S' :: R) w e w')
theorem kq_ptr (i : Nat) {rp lp cp xp : Nat} {cs : List (Int × Int)} {p : Nat} (o : Own w (KqC b num den reb rp lp cp xp cs :: R)) (h : i = 3 ∧ p = rp ∨ i = 4 ∧ p = lp ∨ i = 5 ∧ p = cp ∨ i = 6 ∧ p = xp) : w.cell? ⟨b, i, none⟩ = some (.pointer (some ⟨p, 0, none⟩)) := by
  rcases h with ⟨rfl, rfl⟩ | ⟨rfl, rfl⟩ | ⟨rfl, rfl⟩ | ⟨rfl, rfl⟩ <;> exact Own.cell o _ rfl

def joinQ (s : Cq) (f wt : Int) : Int × Cq := if joinE s.R f wt = 0 then (0, { s with R := joinS s.R f wt, D := (nJoin s.D f wt).2 }) else (joinE s.R f wt, s)
set_option maxHeartbeats 3200000 in
set_option maxRecDepth 100000 in
theorem joinQ_both (h : KqRel N s g) (hN : N ≤ 1000) (hD : NOk s.D) (num den reb f wt : Int) : ∃ g', KqRel (N + 1) (joinQ s f wt).2 g' ∧
    KqDoes num den reb s g 25 (fun p => #[p, .int .i64 f, .int .i64 wt]) (.int .i64 (joinQ s f wt).1) (joinQ s f wt).2 g' := by
  obtain ⟨er, S', O', e, hr, hB⟩ := join_both h.r hN reb f wt
  unfold joinR at e
  unfold joinQ
  by_cases he : joinE s.R f wt = 0
  · rw [if_pos he, he] at e
    rw [if_pos he]
    cases e
    refine ⟨{ g with O := O' }, ⟨hr, h.c, h.x, h.cl, h.cn⟩, fun P S b w R o => ?_⟩
    obtain ⟨rp, lp, cp, xp, o1⟩ := KqT.iff.1 o
    have c3 := kq_ptr 3 o1 (.inl ⟨rfl, rfl⟩)
    have hj := hB.ref P rp w _ (o1.re [1, 5])
    clear hB he
    go_enter Tryz.func25, Tryz.ntmps25
    go_wp2_with fail
    refine hj.mono ?_
    rintro e1 w1 ⟨P', hE, rfl, o2, k2⟩
    have c4 := kq_ptr 4 (o2.up 2) (.inr (.inl ⟨rfl, rfl⟩))
    have hl := ledJoin_spec f wt hD ((LedR.mono hE (o2.up 3)).re [0, 2])
    clear hj
    go_wp2_with fail
    refine hl.mono ?_
    rintro e2 w2 ⟨P2, hE2, rfl, o3, k3⟩
    clear hl
    go_wp2
    go_ret
    refine ⟨P2, S, rfl, KqT.iff.2 ⟨rp, lp, cp, xp, ?_⟩, k2.trans k3⟩
    exact (RefT.mono hE2 (o3.up 2)).re [3, 0, 1, 4, 5]
  · rw [if_neg he] at e
    rw [if_neg he]
    cases e
    refine ⟨{ g with O := O' }, ⟨hr, h.c, h.x, h.cl, h.cn⟩, fun P S b w R o => ?_⟩
    obtain ⟨rp, lp, cp, xp, o1⟩ := KqT.iff.1 o
    have c3 := kq_ptr 3 o1 (.inl ⟨rfl, rfl⟩)
    have hj := hB.ref P rp w _ (o1.re [1, 5])
    have hne : (joinE s.R f wt == 0) = false := by simpa using he
    obtain ⟨E, hE0⟩ : ∃ E, joinE s.R f wt = E := ⟨_, rfl⟩
    rw [hE0] at hj hne ⊢
    clear hB he hE0
    go_enter Tryz.func25, Tryz.ntmps25
    go_wp2_with fail
    refine hj.mono ?_
    rintro e1 w1 ⟨P', hE, rfl, o2, k2⟩
    clear hj
    go_wp2
    go_ret
    refine ⟨P', S, rfl, KqT.iff.2 ⟨rp, lp, cp, xp, ?_⟩, k2⟩
    exact (LedR.mono hE (o2.up 3)).re [3, 1, 0, 4, 5]

def setWQ (s : Cq) (f wt : Int) : Int × Cq := if (setWR s.R f wt).1 = 0 then (0, { s with R := (setWR s.R f wt).2, D := (nSetw s.D f wt).2 }) else ((setWR s.R f wt).1, { s with R := (setWR s.R f wt).2 })
set_option maxHeartbeats 3200000 in
set_option maxRecDepth 100000 in
theorem setWQ_both (h : KqRel N s g) (hD : NOk s.D) (num den reb f wt : Int) : ∃ g', KqRel (N + 1) (setWQ s f wt).2 g' ∧
    KqDoes num den reb s g 29 (fun p => #[p, .int .i64 f, .int .i64 wt]) (.int .i64 (setWQ s f wt).1) (setWQ s f wt).2 g' := by
  obtain ⟨er, S', O', e, hr, hB⟩ := setW_both h.r reb f wt
  unfold setWQ
  rw [e]
  by_cases he : er = 0
  · rw [if_pos he]
    subst he
    refine ⟨{ g with O := O' }, ⟨hr, h.c, h.x, h.cl, h.cn⟩, fun P S b w R o => ?_⟩
    obtain ⟨rp, lp, cp, xp, o1⟩ := KqT.iff.1 o
    have c3 := kq_ptr 3 o1 (.inl ⟨rfl, rfl⟩)
    have hj := hB.ref P rp w _ (o1.re [1, 5])
    clear hB e
    go_enter Tryz.func29, Tryz.ntmps29
    go_wp2_with fail
    refine hj.mono ?_
    rintro e1 w1 ⟨P', hE, rfl, o2, k2⟩
    have c4 := kq_ptr 4 (o2.up 2) (.inr (.inl ⟨rfl, rfl⟩))
    have hl := ledSetw_spec f wt hD ((LedR.mono hE (o2.up 3)).re [0, 2])
    clear hj
    go_wp2_with fail
    refine hl.mono ?_
    rintro e2 w2 ⟨P2, hE2, rfl, o3, k3⟩
    clear hl
    go_wp2
    go_ret
    refine ⟨P2, S, rfl, KqT.iff.2 ⟨rp, lp, cp, xp, ?_⟩, k2.trans k3⟩
    exact (RefT.mono hE2 (o3.up 2)).re [3, 0, 1, 4, 5]
  · rw [if_neg he]
    refine ⟨{ g with O := O' }, ⟨hr, h.c, h.x, h.cl, h.cn⟩, fun P S b w R o => ?_⟩
    obtain ⟨rp, lp, cp, xp, o1⟩ := KqT.iff.1 o
    have c3 := kq_ptr 3 o1 (.inl ⟨rfl, rfl⟩)
    have hj := hB.ref P rp w _ (o1.re [1, 5])
    have hne : (er == 0) = false := by simpa using he
    clear hB he e
    go_enter Tryz.func29, Tryz.ntmps29
    go_wp2_with fail
    refine hj.mono ?_
    rintro e1 w1 ⟨P', hE, rfl, o2, k2⟩
    clear hj
    go_wp2
    go_ret
    refine ⟨P', S, rfl, KqT.iff.2 ⟨rp, lp, cp, xp, ?_⟩, k2⟩
    exact (LedR.mono hE (o2.up 3)).re [3, 1, 0, 4, 5]

def forgO (o : Ord) (f : Int) : Ord := ⟨mdel o.el f, mdel o.tg f, o.tm⟩
def stlF (D : List Tg) (cs : List (Int × Int)) : List (Int × Int) := (List.range 32).map fun f => if lagO D ((f : Nat) : Int) < 0 then cs.getD f (0, 0) else (0, 0)
theorem stlF_len (D : List Tg) (cs : List (Int × Int)) : (stlF D cs).length = 32 := by unfold stlF; rw [List.length_map, List.length_range]
theorem stlF_get (D : List Tg) (cs : List (Int × Int)) {f : Nat} (hf : f < 32) : (stlF D cs).getD f (0, 0) = if lagO D (f : Int) < 0 then cs.getD f (0, 0) else (0, 0) := by
  unfold stlF
  rw [List.getD_eq_getElem?_getD, List.getElem?_map, List.getElem?_range hf]; rfl
theorem stlOk.eq {D : List Tg} {cs cs' : List (Int × Int)} (h : stlOk D cs cs' 32) : cs' = stlF D cs := by
  refine List.ext_getElem (by rw [h.1, stlF_len]) fun f h1 h2 => ?_
  have hf : f < 32 := by rw [h.1] at h1; exact h1
  have h3 := h.2 f hf
  have h5 := stlF_get D cs hf
  rw [List.getD_eq_getElem?_getD, List.getElem?_eq_getElem h1] at h3
  rw [List.getD_eq_getElem?_getD, List.getElem?_eq_getElem h2] at h5
  have h4 : cs'[f] = _ := h3
  have h6 : (stlF D cs)[f] = _ := h5
  refine h4.trans (Eq.trans ?_ h6.symm)
  by_cases hl : lagO D (f : Int) < 0
  · rw [if_neg (fun x => x.2 hl), if_pos hl]
  · rw [if_pos ⟨hf, hl⟩, if_neg hl]
def leaveQ (s : Cq) (f : Int) : (Int × Int) × Cq :=
  if fget s.R.L f = none then ((0, 6), s)
  else (((nLeave s.D f).1.1, 0), ⟨(leaveR s.R f).2, (nLeave s.D f).2, forgO s.C f, forgO s.X f, resetC (nLeave s.D f).2 s.n⟩)
theorem cntO_reset {D : List Tg} {n : List (Int × (Int × Int))} (hu : Uniq n) (f : Int) : cntO (resetC D n) f = if lagO D f < 0 then cntO n f else (0, 0) := by
  have hg : mget (resetC D n) f = if lagO D f < 0 then mget n f else none := by
    unfold resetC
    induction n with
    | nil => simp [mget]
    | cons x n ih =>
      unfold Uniq at hu
      rw [List.map_cons, List.nodup_cons] at hu
      obtain ⟨k, v⟩ := x
      have ih := ih hu.2
      by_cases hk : f = k
      · subst hk
        by_cases hl : lagO D f < 0
        · rw [List.filter_cons_of_pos (by simpa using hl), if_pos hl]
          unfold mget
          rw [if_pos rfl, if_pos rfl]
        · rw [List.filter_cons_of_neg (by simpa using hl), ih, if_neg hl, if_neg hl]
      · have e : mget ((k, v) :: n) f = mget n f := by
          show (if f = k then some v else mget n f) = _
          rw [if_neg hk]
        rw [e, ← ih]
        by_cases hl : lagO D k < 0
        · rw [List.filter_cons_of_pos (by simpa using hl)]
          show (if f = k then some v else mget _ f) = _
          rw [if_neg hk]
        · rw [List.filter_cons_of_neg (by simpa using hl)]
  unfold cntO
  rw [hg]
  split <;> rfl
set_option maxHeartbeats 3200000 in
set_option maxRecDepth 100000 in
theorem leaveQ_both (h : KqRel N s g) (hN : N ≤ 1000) (hD : LgOk M s.D) (hM : (M : Int) ≤ 1000000000000) (hu : Uniq s.n) (num den reb f : Int) : ∃ g', KqRel (N + 1) (leaveQ s f).2 g' ∧
    KqDoes num den reb s g 27 (fun p => #[p, .int .i64 f]) (.tuple #[.int .i64 (leaveQ s f).1.1, .int .i64 (leaveQ s f).1.2]) (leaveQ s f).2 g' := by
  obtain ⟨er, S', O', e, hr, hB⟩ := leave_both h.r hN reb f
  unfold leaveQ
  cases hf : fget s.R.L f with
  | none =>
    have e2 : leaveR s.R f = (6, s.R) := by unfold leaveR; rw [hf]
    rw [e2] at e
    cases e
    rw [if_pos rfl]
    refine ⟨{ g with O := O' }, ⟨hr, h.c, h.x, h.cl, h.cn⟩, fun P S b w R o => ?_⟩
    obtain ⟨rp, lp, cp, xp, o1⟩ := KqT.iff.1 o
    have c3 := kq_ptr 3 o1 (.inl ⟨rfl, rfl⟩)
    have hj := hB.ref P rp w _ (o1.re [1, 5])
    clear hB hf
    go_enter Tryz.func27, Tryz.ntmps27
    go_wp2_with fail
    refine hj.mono ?_
    rintro e1 w1 ⟨P', hE, rfl, o2, k2⟩
    clear hj
    go_wp2
    go_ret2
    refine ⟨P', S, rfl, KqT.iff.2 ⟨rp, lp, cp, xp, ?_⟩, k2⟩
    exact (LedR.mono hE (o2.up 3)).re [3, 1, 0, 4, 5]
  | some t =>
    have e1 : leaveR s.R f = (0, leaveS s.R f t.s) := by unfold leaveR; rw [hf]
    have he0 : er = 0 := by rw [e] at e1; exact congrArg Prod.fst e1
    subst he0
    have hS : S' = (leaveR s.R f).2 := by rw [e]
    subst hS
    rw [if_neg (by simp)]
    have hDl := (nLeave_ok hD f).ok.len
    refine ⟨⟨O', forgetTags g.tC f, forgetTags g.tX f, stlF (nLeave s.D f).2 g.cs⟩, ⟨hr, ?_, ?_, stlF_len _ _, fun q hq => ?_⟩, fun P S b w R o => ?_⟩
    · have := h.c.forget f
      rw [← mdel_eraseF] at this
      exact this
    · have := h.x.forget f
      rw [← mdel_eraseF] at this
      exact this
    · show (stlF (nLeave s.D f).2 g.cs).getD q (0, 0) = cntO (resetC (nLeave s.D f).2 s.n) (q : Int)
      rw [stlF_get _ _ hq, cntO_reset hu, h.cn q hq]
    · obtain ⟨rp, lp, cp, xp, o1⟩ := KqT.iff.1 o
      have c3 := kq_ptr 3 o1 (.inl ⟨rfl, rfl⟩)
      have hj := hB.ref P rp w _ (o1.re [1, 5])
      have HC := Lib.hid (fun (S : SP) (b : Nat) (w : World) (R : List SP) (o : Own w (RefR S b reb s.C.el g.tC s.C.tm :: S :: R)) => forget_ref h.c f o)
      have HX := Lib.hid (fun (S : SP) (b : Nat) (w : World) (R : List SP) (o : Own w (RefR S b reb s.X.el g.tX s.X.tm :: S :: R)) => forget_ref h.x f o)
      have hcl := h.cl
      clear hB hf h e e1 hr
      go_enter Tryz.func27, Tryz.ntmps27
      go_wp2_with fail
      refine hj.mono ?_
      rintro e1 w1 ⟨P', hE, rfl, o2, k2⟩
      have c4 := kq_ptr 4 (o2.up 2) (.inr (.inl ⟨rfl, rfl⟩))
      have hl := ledLeave_spec f hD hM ((LedR.mono hE (o2.up 3)).re [0, 2])
      clear hj
      go_wp2_with fail
      refine hl.mono ?_
      rintro e2 w2 ⟨P2, hE2, rfl, o3, k3⟩
      have c5 := kq_ptr 5 (o3.up 3) (.inr (.inr (.inl ⟨rfl, rfl⟩)))
      have hc := HC.out _ _ _ _ (o3.re [4, 6])
      clear hl
      go_wp2_with fail
      refine hc.mono ?_
      rintro e3 w3 ⟨S2, hS2, rfl, o4, k4⟩
      have c6 := kq_ptr 6 (o4.up 5) (.inr (.inr (.inr ⟨rfl, rfl⟩)))
      have hx := HX.out _ _ _ _ ((RefR.mono hS2 (o4.up 6)).re [0, 2])
      clear hc
      go_wp2_with fail
      refine hx.mono ?_
      rintro e4 w4 ⟨S3, hS3, rfl, o5, k5⟩
      have hs := settle_spec hcl (by omega) (o5.re [6, 3, 4])
      clear hx
      go_wp2_with fail
      refine hs.mono ?_
      rintro e5 w5 ⟨cs', hst, rfl, o6, k6⟩
      clear hs
      have HST := Lib.hid hst.eq
      clear hst
      go_wp2
      go_ret2
      rw [HST.out] at o6
      have oA := RefT.mono hE2 (o6.up 6)
      have oB := RefR.mono hS3 (oA.up 6)
      refine ⟨P2, S3, rfl, KqT.iff.2 ⟨rp, lp, cp, xp, ?_⟩, k2.trans (k3.trans (k4.trans (k5.trans k6)))⟩
      rw [← mdel_eraseF, ← mdel_eraseF] at oB
      exact oB.re [2, 1, 3, 0, 5, 4]
end
end Go.Proofs.YtjpahfkchhnpoaaGreat

/- A whole struct stored: what is owned behind it. -/
namespace Go.Proofs.YtjpahfkchhnpoaaGreat
open Go.RowKit
open SP
section
variable {w w' : World} {R : List SP} {b : Nat} {T : TypeId}

theorem Own.setCells_from : ∀ (vs pre old : List Value) (w : World), old.length = vs.length → Own w (cel b T (pre ++ old) :: R) → Own (w.setCells b pre.length vs) (cel b T (pre ++ vs) :: R)
  | [], pre, old, w, h, o => by
    have : old = [] := List.eq_nil_of_length_eq_zero (by simpa using h)
    subst this
    exact o
  | v :: r, pre, [], w, h, o => by simp at h
  | v :: r, pre, x :: y, w, h, o => by
    have o1 := o.setCell pre.length v
    rw [List.set_append_right _ _ (Nat.le_refl _), Nat.sub_self, List.set_cons_zero] at o1
    have := Own.setCells_from r (pre ++ [v]) y _ (by simpa using h) (by simpa using o1)
    rw [World.setCells]
    simpa using this
theorem Own.setCells {old vs : List Value} (o : Own w (cel b T old :: R)) (h : old.length = vs.length) : Own (w.setCells b 0 vs) (cel b T vs :: R) :=
  Own.setCells_from vs [] old w h o
theorem Own.setCells_mid : ∀ (vs pre old post : List Value) (w : World), old.length = vs.length → Own w (cel b T (pre ++ old ++ post) :: R) → Own (w.setCells b pre.length vs) (cel b T (pre ++ vs ++ post) :: R)
  | [], pre, old, post, w, h, o => by
    have : old = [] := List.eq_nil_of_length_eq_zero (by simpa using h)
    subst this
    exact o
  | v :: r, pre, [], post, w, h, o => by simp at h
  | v :: r, pre, x :: y, post, w, h, o => by
    have o1 := o.setCell pre.length v
    rw [List.append_assoc, List.set_append_right _ _ (Nat.le_refl _), Nat.sub_self, List.cons_append, List.set_cons_zero] at o1
    have := Own.setCells_mid r (pre ++ [v]) y post _ (by simpa using h) (by simpa using o1)
    rw [World.setCells]
    simpa using this
/-- The first cells of a row stored anew. -/
theorem Own.setCells_pre {old vs post : List Value} (o : Own w (cel b T (old ++ post) :: R)) (h : old.length = vs.length) : Own (w.setCells b 0 vs) (cel b T (vs ++ post) :: R) :=
  Own.setCells_mid vs [] old post w h o
theorem Own.there {old : List Value} (o : Own w (cel b T old :: R)) {n : Nat} (h : n = old.length) : w.there b 0 n := fun j hj => by
  subst h
  refine ⟨?_, o.frozen _⟩
  rw [Nat.zero_add, o.cell j (List.getElem?_eq_getElem hj)]
  rfl
theorem Own.rangeAt {vs : List Value} (o : Own w (cel b T vs :: R)) : w.rangeAt b 0 vs := fun j v hv => by
  rw [Nat.zero_add, o.cell j hv]
theorem Calm.setCells (b : Nat) : ∀ (vs : List Value) (o : Nat) (w : World), Calm w (w.setCells b o vs)
  | [], _, w => Calm.refl w
  | v :: r, o, w => by
    rw [World.setCells]
    exact (⟨rfl, rfl, rfl⟩ : Calm w (w.setCell ⟨b, o, none⟩ v)).trans (Calm.setCells b r (o + 1) _)
end
end Go.Proofs.YtjpahfkchhnpoaaGreat

/- The reference of cifq: its copy. -/
namespace Go.Proofs.YtjpahfkchhnpoaaGreat
open Go.RowKit
open SP
section
variable {w w' : World} {R : List SP} {b rp lp cp xp N : Nat} {num den reb : Int} {P S : SP} {s : Cq} {g : KqG}

/-- Whole structs, loaded and stored: kept whole in the walk. -/
noncomputable def kqLoad (v : Value) : Sem Value := Instr.loadAt 54 v
noncomputable def kqStore (p v : Value) : Sem Unit := Instr.storeAt 54 p v
theorem kqLoad_eq (v : Value) : Instr.loadAt 54 v = kqLoad v := rfl
theorem kqStore_eq (p v : Value) : Instr.storeAt 54 p v = kqStore p v := rfl
noncomputable def koLoad (v : Value) : Sem Value := Instr.loadAt 105 v
noncomputable def koStore (p v : Value) : Sem Unit := Instr.storeAt 105 p v
theorem koLoad_eq (v : Value) : Instr.loadAt 105 v = koLoad v := rfl
theorem koStore_eq (p v : Value) : Instr.storeAt 105 p v = koStore p v := rfl
theorem kqCells_len {cs : List (Int × Int)} (h : cs.length = 32) : (kqCells num den reb rp lp cp xp cs).length = 71 := by
  unfold kqCells
  rw [List.length_append, flat_length cnC_len, h]; rfl
theorem kqCells_one {cs : List (Int × Int)} : ∀ u ∈ kqCells num den reb rp lp cp xp cs, u.oneCell' = true := by
  intro u hu
  unfold kqCells at hu
  rcases List.mem_append.1 hu with hu | hu
  · simp only [List.mem_cons, List.not_mem_nil, or_false] at hu
    rcases hu with rfl | rfl | rfl | rfl | rfl | rfl | rfl <;> rfl
  · obtain ⟨p, _, hp⟩ := List.mem_flatMap.1 hu
    unfold cnC at hp
    simp at hp
    rcases hp with rfl | rfl <;> rfl
section
variable {reb now : Int} {tags : List Int}
theorem refCells_oneK {a : Option Addr} {n c : Nat} : ∀ v ∈ refCells reb a n c tags now, v.oneCell' = true := by
  intro v hv
  unfold refCells at hv
  simp only [List.cons_append, List.nil_append, List.mem_cons, List.mem_append, List.mem_map, List.not_mem_nil, or_false] at hv
  rcases hv with rfl | rfl | ⟨x, -, rfl⟩ | rfl <;> rfl
theorem refCells_lenK {a : Option Addr} {n c : Nat} (h : tags.length = 32) : (refCells reb a n c tags now).length = 35 := by
  unfold refCells; simp [h]
end
def zeroKq : List Value := [.int .i64 0, .int .i64 0, .int .i64 0, .pointer none, .pointer none, .pointer none, .pointer none] ++ List.replicate 64 (.int .i64 0)
def zeroRefK : List Value := [.int .i64 0, .slice none 0 0, .int .i64 0, .int .i64 0, .int .i64 0, .int .i64 0, .int .i64 0, .int .i64 0, .int .i64 0, .int .i64 0, .int .i64 0, .int .i64 0, .int .i64 0, .int .i64 0, .int .i64 0, .int .i64 0, .int .i64 0, .int .i64 0, .int .i64 0, .int .i64 0, .int .i64 0, .int .i64 0, .int .i64 0, .int .i64 0, .int .i64 0, .int .i64 0, .int .i64 0, .int .i64 0, .int .i64 0, .int .i64 0, .int .i64 0, .int .i64 0, .int .i64 0, .int .i64 0, .int .i64 0]
theorem cell_allocK {w : World} {a : Addr} {v : Value} (x : Obj) (h : w.cell? a = some v) : (w.alloc x).cell? a = some v := by
  rw [World.cell?_alloc_some w a x (by rw [h]; rfl)]
  exact h
theorem cell_setCellsK {a : Addr} {v : Value} {q : Nat} (hne : q ≠ a.block) : ∀ (cs : List Value) (o : Nat) (w : World), w.cell? a = some v → (w.setCells q o cs).cell? a = some v
  | [], _, _, h => h
  | c :: cs, o, w, h => by
    rw [World.setCells]
    refine cell_setCellsK hne cs (o + 1) _ ?_
    rw [World.cell?_setCell_far]
    · exact h
    · exact hne
theorem cell_drewK {w : World} {a : Addr} {v : Value} (h : w.cell? a = some v) : w.drew.cell? a = some v := h
theorem rangeAt_drewK {w : World} {b o : Nat} {cs : List Value} (h : w.rangeAt b o cs) : w.drew.rangeAt b o cs := h
attribute [local go_sem ↓] kqLoad_eq kqStore_eq koLoad_eq koStore_eq
set_option maxHeartbeats 3200000 in
set_option maxRecDepth 100000 in
theorem copied_spec (h : KqRel N s g) (o : Own w (KqT P S b num den reb s g :: P :: S :: R)) :
    Calls Tryz.prog 68 #[.pointer (some ⟨b, 0, none⟩)] w
      (fun e w' => ∃ q, Ret (.pointer (some ⟨q, 0, none⟩)) (KqT P S q num den reb s g :: KqT P S b num den reb s g :: P :: S :: R) w e w') := by
  obtain ⟨rp, lp, cp, xp, o1⟩ := KqT.iff.1 o
  obtain ⟨CS, hCS⟩ : ∃ CS, kqCells num den reb rp lp cp xp g.cs = CS := ⟨_, rfl⟩
  have hlen : CS.length = 71 := by rw [← hCS]; exact kqCells_len h.cl
  have hone : CS.toArray.all (·.oneCell') = true := all_oneCell_toArray (by rw [← hCS]; exact kqCells_one)
  have o1' := o1
  unfold KqC at o1'
  rw [hCS] at o1'
  have rg := o1'.rangeAt
  have hld : ∀ w', w'.rangeAt b 0 CS → (kqLoad (.pointer (some ⟨b, 0, none⟩))).run Tryz.prog w' = .ok (.agg CS.toArray) w' := fun w' h => run_loadAt_mid w' b 0 _ CS _ h Tryz.underlying54 rfl (by rw [hlen]; kernel_rfl)
  have hst : ∀ w' q, w'.there q 0 71 → (kqStore (.pointer (some ⟨q, 0, none⟩)) (.agg CS.toArray)).run Tryz.prog w' = .ok () (w'.setCells q 0 CS) := fun w' q h => by
    unfold kqStore
    have := run_storeAt_mid (P := Tryz.prog) w' q 0 54 CS.toArray (by simpa [hlen] using h) (by rw [List.size_toArray, hlen]; kernel_rfl) hone
    simpa using this
  have oZ := o1'.alloc (.cells zeroKq.toArray 54)
  have hth := oZ.there (n := 71) rfl
  rw [show zeroKq.toArray = Tryz.zeroCells54 from by rfl] at oZ hth
  have hs1 := hst _ _ hth
  have oN := oZ.setCells (vs := CS) (by rw [hlen]; rfl)
  have hl1 := hld w rg
  go_enter Tryz.func68, Tryz.ntmps68
  go_upto_region 2 with fail
  have KN : Calm w ((w.alloc (.cells Tryz.zeroCells54 54)).setCells w.heap.size 0 CS) := (qcalm_alloc (Calm.refl w)).trans (Calm.setCells _ CS 0 _)
  obtain ⟨q, hq⟩ : ∃ q, w.heap.size = q := ⟨_, rfl⟩
  rw [hq] at oN KN ⊢
  obtain ⟨wN, hwN⟩ : ∃ wN, (w.alloc (.cells Tryz.zeroCells54 54)).setCells q 0 CS = wN := ⟨_, rfl⟩
  rw [hwN] at oN KN ⊢
  rw [← hCS] at oN
  clear hs1 hth oZ hl1 hst hld rg hone hlen o1' o1 o hwN hq
  have c3 := kq_ptr 3 (oN.up 1) (.inl ⟨rfl, rfl⟩)
  have hcp := copyT_spec (oN.re [2])
  go_wp2_with fail
  refine hcp.mono ?_
  rintro e2 w2 ⟨p2, rfl, o2, k2⟩
  clear hcp c3
  have d3 : w2.cell? ⟨q, 3, none⟩ = some (.pointer (some ⟨rp, 0, none⟩)) := kq_ptr 3 (o2.up 2) (.inl ⟨rfl, rfl⟩)
  have df := (o2.up 2).frozen
  have dl := (o2.up 2).celLt
  have oP : Own (w2.setCell ⟨q, 3, none⟩ (.pointer (some ⟨p2, 0, none⟩))) (KqC q num den reb p2 lp cp xp g.cs :: _) := (o2.up 2).setCell 3 (.pointer (some ⟨p2, 0, none⟩))
  have KP := qcalm_set (x := ⟨q, 3, none⟩) (v := .pointer (some ⟨p2, 0, none⟩)) (KN.trans k2)
  go_upto_region 3 with fail
  obtain ⟨wP, hwP⟩ : ∃ wP, w2.setCell ⟨q, 3, none⟩ (.pointer (some ⟨p2, 0, none⟩)) = wP := ⟨_, rfl⟩
  rw [hwP] at oP KP ⊢
  clear o2 k2 KN oN d3 df dl hwP
  -- q, RefT p2, RefT rp, b, LedR, RefRc, RefRx, P, S
  have c4 := kq_ptr 4 (oP.up 3) (.inr (.inl ⟨rfl, rfl⟩))
  have c5 := kq_ptr 5 (oP.up 3) (.inr (.inr (.inl ⟨rfl, rfl⟩)))
  have c6 := kq_ptr 6 (oP.up 3) (.inr (.inr (.inr ⟨rfl, rfl⟩)))
  obtain ⟨al, cl, hpl, oL⟩ := LedR.iff.1 (oP.up 4)
  have l0 := oL.cell 0
  obtain ⟨ac, cc, hc1, hc2, oC⟩ := RefR.iff.1 (oL.up 5)
  obtain ⟨ax, cx, hx1, hx2, oX⟩ := RefR.iff.1 (oC.up 6)
  -- cel xp, cel cp, cel lp, q, RefT p2, RefT rp, b, P, S
  obtain ⟨CX, hCX⟩ : ∃ CX, refCells reb ax s.X.el.length cx g.tX s.X.tm = CX := ⟨_, rfl⟩
  obtain ⟨CC, hCC⟩ : ∃ CC, refCells reb ac s.C.el.length cc g.tC s.C.tm = CC := ⟨_, rfl⟩
  rw [hCX, hCC] at oX
  have hxl : CX.length = 35 := by rw [← hCX]; exact refCells_lenK hx1
  have hcl : CC.length = 35 := by rw [← hCC]; exact refCells_lenK hc1
  have hxo : CX.toArray.all (·.oneCell') = true := all_oneCell_toArray (by rw [← hCX]; exact refCells_oneK)
  have hco : CC.toArray.all (·.oneCell') = true := all_oneCell_toArray (by rw [← hCC]; exact refCells_oneK)
  have rx := oX.rangeAt
  have rc := (oX.up 1).rangeAt
  have hldX : ∀ w', w'.rangeAt xp 0 CX → (koLoad (.pointer (some ⟨xp, 0, none⟩))).run Tryz.prog w' = .ok (.agg CX.toArray) w' := fun w' h => run_loadAt_mid w' xp 0 _ CX _ h Tryz.underlying105 rfl (by rw [hxl]; kernel_rfl)
  have hldC : ∀ w', w'.rangeAt cp 0 CC → (koLoad (.pointer (some ⟨cp, 0, none⟩))).run Tryz.prog w' = .ok (.agg CC.toArray) w' := fun w' h => run_loadAt_mid w' cp 0 _ CC _ h Tryz.underlying105 rfl (by rw [hcl]; kernel_rfl)
  have hstX : ∀ w' q, w'.there q 0 35 → (koStore (.pointer (some ⟨q, 0, none⟩)) (.agg CX.toArray)).run Tryz.prog w' = .ok () (w'.setCells q 0 CX) := fun w' q h => by
    unfold koStore
    have := run_storeAt_mid (P := Tryz.prog) w' q 0 105 CX.toArray (by simpa [hxl] using h) (by rw [List.size_toArray, hxl]; kernel_rfl) hxo
    simpa using this
  have hstC : ∀ w' q, w'.there q 0 35 → (koStore (.pointer (some ⟨q, 0, none⟩)) (.agg CC.toArray)).run Tryz.prog w' = .ok () (w'.setCells q 0 CC) := fun w' q h => by
    unfold koStore
    have := run_storeAt_mid (P := Tryz.prog) w' q 0 105 CC.toArray (by simpa [hcl] using h) (by rw [List.size_toArray, hcl]; kernel_rfl) hco
    simpa using this
  have lb := (oX.up 6).celLt
  have ll := (oX.up 2).celLt
  have lc := (oX.up 1).celLt
  have lx := oX.celLt
  have oA0 := ((((oX.alloc (.cells #[.slice al s.D.length cl] 78)).alloc (.cells zeroRefK.toArray 105)).alloc (.cells zeroRefK.toArray 105))).drew
  simp only [World.size_alloc] at oA0
  have tha0 := (oA0.up 1).there (n := 35) rfl
  have oB0 := (oA0.up 1).setCells (vs := CC) (by rw [hcl]; rfl)
  have thb0 := (oB0.up 1).there (n := 35) rfl
  have oD0 := (oB0.up 1).setCells (vs := CX) (by rw [hxl]; rfl)
  have KA0 := (qcalm_drew (qcalm_alloc (x := (.cells zeroRefK.toArray 105)) (qcalm_alloc (x := (.cells zeroRefK.toArray 105)) (qcalm_alloc (x := (.cells #[.slice al s.D.length cl] 78)) KP)))).trans ((Calm.setCells (wP.heap.size + 1) CC 0 _).trans (Calm.setCells (wP.heap.size + 1 + 1) CX 0 _))
  have HA0 := Lib.hid oD0
  have HK0 := Lib.hid KA0
  have oA1 := ((((oX.alloc (.cells #[.slice al s.D.length cl] 78)).alloc (.cells zeroRefK.toArray 105)).alloc (.cells zeroRefK.toArray 105))).drew
  simp only [World.size_alloc] at oA1
  have tha1 := (oA1.up 0).there (n := 35) rfl
  have oB1 := (oA1.up 0).setCells (vs := CC) (by rw [hcl]; rfl)
  have thb1 := (oB1.up 1).there (n := 35) rfl
  have oD1 := (oB1.up 1).setCells (vs := CX) (by rw [hxl]; rfl)
  have KA1 := (qcalm_drew (qcalm_alloc (x := (.cells zeroRefK.toArray 105)) (qcalm_alloc (x := (.cells zeroRefK.toArray 105)) (qcalm_alloc (x := (.cells #[.slice al s.D.length cl] 78)) KP)))).trans ((Calm.setCells (wP.heap.size + 1 + 1) CC 0 _).trans (Calm.setCells (wP.heap.size + 1) CX 0 _))
  have HA1 := Lib.hid oD1
  have HK1 := Lib.hid KA1
  have oA2 := ((((oX.alloc (.cells zeroRefK.toArray 105)).alloc (.cells #[.slice al s.D.length cl] 78)).alloc (.cells zeroRefK.toArray 105))).drew
  simp only [World.size_alloc] at oA2
  have tha2 := (oA2.up 2).there (n := 35) rfl
  have oB2 := (oA2.up 2).setCells (vs := CC) (by rw [hcl]; rfl)
  have thb2 := (oB2.up 1).there (n := 35) rfl
  have oD2 := (oB2.up 1).setCells (vs := CX) (by rw [hxl]; rfl)
  have KA2 := (qcalm_drew (qcalm_alloc (x := (.cells zeroRefK.toArray 105)) (qcalm_alloc (x := (.cells #[.slice al s.D.length cl] 78)) (qcalm_alloc (x := (.cells zeroRefK.toArray 105)) KP)))).trans ((Calm.setCells (wP.heap.size) CC 0 _).trans (Calm.setCells (wP.heap.size + 1 + 1) CX 0 _))
  have HA2 := Lib.hid oD2
  have HK2 := Lib.hid KA2
  have oA3 := ((((oX.alloc (.cells zeroRefK.toArray 105)).alloc (.cells zeroRefK.toArray 105)).alloc (.cells #[.slice al s.D.length cl] 78))).drew
  simp only [World.size_alloc] at oA3
  have tha3 := (oA3.up 2).there (n := 35) rfl
  have oB3 := (oA3.up 2).setCells (vs := CC) (by rw [hcl]; rfl)
  have thb3 := (oB3.up 2).there (n := 35) rfl
  have oD3 := (oB3.up 2).setCells (vs := CX) (by rw [hxl]; rfl)
  have KA3 := (qcalm_drew (qcalm_alloc (x := (.cells #[.slice al s.D.length cl] 78)) (qcalm_alloc (x := (.cells zeroRefK.toArray 105)) (qcalm_alloc (x := (.cells zeroRefK.toArray 105)) KP)))).trans ((Calm.setCells (wP.heap.size) CC 0 _).trans (Calm.setCells (wP.heap.size + 1) CX 0 _))
  have HA3 := Lib.hid oD3
  have HK3 := Lib.hid KA3
  have oA4 := ((((oX.alloc (.cells zeroRefK.toArray 105)).alloc (.cells #[.slice al s.D.length cl] 78)).alloc (.cells zeroRefK.toArray 105))).drew
  simp only [World.size_alloc] at oA4
  have tha4 := (oA4.up 0).there (n := 35) rfl
  have oB4 := (oA4.up 0).setCells (vs := CC) (by rw [hcl]; rfl)
  have thb4 := (oB4.up 2).there (n := 35) rfl
  have oD4 := (oB4.up 2).setCells (vs := CX) (by rw [hxl]; rfl)
  have KA4 := (qcalm_drew (qcalm_alloc (x := (.cells zeroRefK.toArray 105)) (qcalm_alloc (x := (.cells #[.slice al s.D.length cl] 78)) (qcalm_alloc (x := (.cells zeroRefK.toArray 105)) KP)))).trans ((Calm.setCells (wP.heap.size + 1 + 1) CC 0 _).trans (Calm.setCells (wP.heap.size) CX 0 _))
  have HA4 := Lib.hid oD4
  have HK4 := Lib.hid KA4
  have oA5 := ((((oX.alloc (.cells zeroRefK.toArray 105)).alloc (.cells zeroRefK.toArray 105)).alloc (.cells #[.slice al s.D.length cl] 78))).drew
  simp only [World.size_alloc] at oA5
  have tha5 := (oA5.up 1).there (n := 35) rfl
  have oB5 := (oA5.up 1).setCells (vs := CC) (by rw [hcl]; rfl)
  have thb5 := (oB5.up 2).there (n := 35) rfl
  have oD5 := (oB5.up 2).setCells (vs := CX) (by rw [hxl]; rfl)
  have KA5 := (qcalm_drew (qcalm_alloc (x := (.cells #[.slice al s.D.length cl] 78)) (qcalm_alloc (x := (.cells zeroRefK.toArray 105)) (qcalm_alloc (x := (.cells zeroRefK.toArray 105)) KP)))).trans ((Calm.setCells (wP.heap.size + 1) CC 0 _).trans (Calm.setCells (wP.heap.size) CX 0 _))
  have HA5 := Lib.hid oD5
  have HK5 := Lib.hid KA5
  unfold zeroRefK at tha0 thb0 tha1 thb1 tha2 thb2 tha3 thb3 tha4 thb4 tha5 thb5
  clear oA0 oB0 oD0 KA0 oA1 oB1 oD1 KA1 oA2 oB2 oD2 KA2 oA3 oB3 oD3 KA3 oA4 oB4 oD4 KA4 oA5 oB5 oD5 KA5
  go_cut [4, 5, 6] (fun v4 v5 v6 wc => ∃ lq cq xq : Nat, v4 = .pointer (some ⟨lq, 0, none⟩) ∧ v5 = .pointer (some ⟨cq, 0, none⟩) ∧ v6 = .pointer (some ⟨xq, 0, none⟩) ∧ Own wc (cel lq 78 [.slice al s.D.length cl] :: cel cq 105 CC :: cel xq 105 CX :: cel xp 105 CX :: cel cp 105 CC :: cel lp 78 [.slice al s.D.length cl] :: KqC q num den reb p2 lp cp xp g.cs :: RefT P p2 reb s.R.L g.O s.R.tm s.R.aw :: RefT P rp reb s.R.L g.O s.R.tm s.R.aw :: KqC b num den reb rp lp cp xp g.cs :: P :: S :: R) ∧ Calm w wc)
  case first =>
    go_region_held3 (fun w' => w'.cell? ⟨b, 4, none⟩ = some (.pointer (some ⟨lp, 0, none⟩)) ∧ w'.cell? ⟨b, 5, none⟩ = some (.pointer (some ⟨cp, 0, none⟩)) ∧ w'.cell? ⟨b, 6, none⟩ = some (.pointer (some ⟨xp, 0, none⟩)) ∧ w'.cell? ⟨lp, 0, none⟩ = some (.slice al s.D.length cl) ∧ w'.rangeAt cp 0 CC ∧ w'.rangeAt xp 0 CX) (((try dsimp only); (repeat' apply And.intro); all_goals first | (with_reducible assumption) | ((repeat' (first | (with_reducible assumption) | (with_reducible refine cell_drewK ?_) | (with_reducible refine cell_allocK _ ?_) | (with_reducible refine cell_setCellsK (by dsimp only; omega) _ _ _ ?_))); done) | ((repeat' (first | (with_reducible assumption) | (with_reducible refine rangeAt_drewK ?_) | (with_reducible refine World.rangeAt_alloc ?_ _) | (with_reducible refine World.rangeAt_setCells_apart ?_ _ _ _ (Or.inl (by omega))))); done))) (fail)
    all_goals go_wp2
    all_goals go_meet
    all_goals first
      | (exact ⟨wP.heap.size, wP.heap.size + 1, wP.heap.size + 1 + 1, rfl, rfl, rfl, HA0.out.re [2, 1, 0], HK0.out⟩)
      | (exact ⟨wP.heap.size, wP.heap.size + 1 + 1, wP.heap.size + 1, rfl, rfl, rfl, HA1.out.re [2, 1, 0], HK1.out⟩)
      | (exact ⟨wP.heap.size + 1, wP.heap.size, wP.heap.size + 1 + 1, rfl, rfl, rfl, HA2.out.re [2, 1, 0], HK2.out⟩)
      | (exact ⟨wP.heap.size + 1 + 1, wP.heap.size, wP.heap.size + 1, rfl, rfl, rfl, HA3.out.re [2, 1, 0], HK3.out⟩)
      | (exact ⟨wP.heap.size + 1, wP.heap.size + 1 + 1, wP.heap.size, rfl, rfl, rfl, HA4.out.re [2, 1, 0], HK4.out⟩)
      | (exact ⟨wP.heap.size + 1 + 1, wP.heap.size + 1, wP.heap.size, rfl, rfl, rfl, HA5.out.re [2, 1, 0], HK5.out⟩)
  case rest =>
    obtain ⟨lq, cq, xq, rfl, rfl, rfl, oK, kK⟩ := hcut
    clear oX c4 c5 c6 l0 rx rc hldX hldC hstX hstC lb ll lc lx oP oL oC KP
    have d4 := kq_ptr 4 (oK.up 6) (.inr (.inl ⟨rfl, rfl⟩))
    have d5 := kq_ptr 5 (oK.up 6) (.inr (.inr (.inl ⟨rfl, rfl⟩)))
    have d6 := kq_ptr 6 (oK.up 6) (.inr (.inr (.inr ⟨rfl, rfl⟩)))
    have df := (oK.up 6).frozen
    have dl := (oK.up 6).celLt
    have oF : Own (((wc.setCell ⟨q, 4, none⟩ (.pointer (some ⟨lq, 0, none⟩))).setCell ⟨q, 5, none⟩ (.pointer (some ⟨cq, 0, none⟩))).setCell ⟨q, 6, none⟩ (.pointer (some ⟨xq, 0, none⟩))) (KqC q num den reb p2 lq cq xq g.cs :: _) := (((oK.up 6).setCell 4 (.pointer (some ⟨lq, 0, none⟩))).setCell 5 (.pointer (some ⟨cq, 0, none⟩))).setCell 6 (.pointer (some ⟨xq, 0, none⟩))
    have KF := qcalm_set (x := ⟨q, 6, none⟩) (v := .pointer (some ⟨xq, 0, none⟩)) (qcalm_set (x := ⟨q, 5, none⟩) (v := .pointer (some ⟨cq, 0, none⟩)) (qcalm_set (x := ⟨q, 4, none⟩) (v := .pointer (some ⟨lq, 0, none⟩)) kK))
    rw [← hCX, ← hCC] at oF
    have o1 : Own _ (LedR P lq s.D :: _) := LedR.iff.2 ⟨al, cl, hpl, oF.re [1]⟩
    have o2 : Own _ (RefR S cq reb s.C.el g.tC s.C.tm :: _) := RefR.iff.2 ⟨ac, cc, hc1, hc2, o1.re [2]⟩
    have o3 : Own _ (RefR S xq reb s.X.el g.tX s.X.tm :: _) := RefR.iff.2 ⟨ax, cx, hx1, hx2, o2.re [3]⟩
    have o4 : Own _ (RefR S xp reb s.X.el g.tX s.X.tm :: _) := RefR.iff.2 ⟨ax, cx, hx1, hx2, o3.re [4]⟩
    have o5 : Own _ (RefR S cp reb s.C.el g.tC s.C.tm :: _) := RefR.iff.2 ⟨ac, cc, hc1, hc2, o4.re [5]⟩
    have o6 : Own _ (LedR P lp s.D :: _) := LedR.iff.2 ⟨al, cl, hpl, o5.re [6]⟩
    have o7 : Own _ (KqT P S b num den reb s g :: _) := KqT.iff.2 ⟨rp, lp, cp, xp, o6.re [9, 8, 0, 1, 2]⟩
    have o8 : Own _ (KqT P S q num den reb s g :: _) := KqT.iff.2 ⟨p2, lq, cq, xq, o7.re [4, 5, 3, 2, 1]⟩
    have HO := Lib.hid o8
    clear o1 o2 o3 o4 o5 o6 o7 o8 oF hpl hc1 hc2 hx1 hx2 hxl hcl hxo hco hCX hCC
    go_wp2
    go_ret
    exact ⟨q, rfl, HO.out, KF⟩
end
end Go.Proofs.YtjpahfkchhnpoaaGreat

/- The reference of cifq: whether a flow keeps its slot; the choice. -/
namespace Go.Proofs.YtjpahfkchhnpoaaGreat
open Go.RowKit
open SP
section
variable {w w' : World} {R : List SP} {b rp lp cp xp N : Nat} {num den reb : Int} {P S : SP} {s : Cq} {g : KqG}

set_option maxHeartbeats 1600000 in
set_option maxRecDepth 100000 in
theorem refKeeps_spec {nu de cr cl : Nat} (hnu : nu < 4194304) (hde : de < 4194304) (hcr : cr < 4294967296) (hcl : cl < 4294967296) (o : Own w R) :
    Calls Tryz.prog 72 #[.agg #[.int .i64 (nu : Int), .int .i64 (de : Int)], .agg #[.int .i64 (cr : Int), .int .i64 (cl : Int)]] w (Ret (.bool (keepsO (nu : Int) (de : Int) ((cr : Int), (cl : Int)))) R w) := by
  have oA := (o.alloc (.cells #[.int .i64 (nu : Int), .int .i64 (de : Int)] 24)).alloc (.cells #[.int .i64 (cr : Int), .int .i64 (cl : Int)] 51)
  have w1 := wrapU (x := cl) (by omega)
  have w2 := wrapU (x := de) (by omega)
  have w3 := wrapU (x := nu) (by omega)
  have w4 := wrapU (x := cr) (by omega)
  have m1 : cl * de < 9223372036854775808 := by
    have := Nat.mul_le_mul (Nat.le_of_lt hcl) (Nat.le_of_lt hde)
    omega
  have m2 : nu * cr < 9223372036854775808 := by
    have := Nat.mul_le_mul (Nat.le_of_lt hnu) (Nat.le_of_lt hcr)
    omega
  have hq := fun (W : World) (R' : List SP) (o' : Own W R') => refCross_spec cl de nu cr (by omega) (by omega) (by omega) (by omega) m1 m2 o'
  have hv : keepsO (nu : Int) (de : Int) ((cr : Int), (cl : Int)) = decide (cmpZ ((cl * de : Nat) : Int) ((nu * cr : Nat) : Int) ≤ 0) := by
    unfold keepsO
    rw [decide_eq_decide, cmpZ_le]
    push_cast
    exact Iff.rfl
  rw [hv]
  clear hv m1 m2
  generalize cmpZ ((cl * de : Nat) : Int) ((nu * cr : Nat) : Int) = X at *
  go_enter Tryz.func72, Tryz.ntmps72
  go_wp2_with fail
  refine (hq _ _ oA).mono ?_
  rintro e1 w5 ⟨rfl, o1, k1⟩
  go_wp2
  go_ret
  exact ⟨rfl, o1.drop.drop, ⟨k1.os, k1.tape, k1.output⟩⟩
end
end Go.Proofs.YtjpahfkchhnpoaaGreat

/- The reference of cifq: the choice, plain. -/
namespace Go.Proofs.YtjpahfkchhnpoaaGreat
open Go.RowKit
open SP
section
variable {i m N : Nat} {s : Cq} {g : KqG} {H : List Head}

theorem kqHead_f {H : List Head} {L : List Tg} (hf : H.map (·.f) = L.map (·.f)) {q : Nat} {x : Head} {t : Tg} (hx : H[q]? = some x) (ht : L[q]? = some t) : x.f = t.f := by
  have := congrArg (fun l => l[q]?) hf
  simp only [List.getElem?_map, hx, ht] at this
  exact Option.some.inj this
/-- What stands at a place of the three lists. -/
theorem dec_at (h : CqInv i m N s) (hH : H.map (·.f) = s.R.L.map (·.f)) {j : Nat} {x : Head} (hx : H[j]? = some x) : ∃ t d : Tg, s.R.L[j]? = some t ∧ s.D[j]? = some d ∧
    pickT s.D goodP H (j + 1) = (if x.good = true then pickT s.D goodP H j ++ [(x.f, t.w)] else pickT s.D goodP H j) ∧
    pickT s.D (lagP s.D) H (j + 1) = (if x.good = true ∧ 0 < d.s then pickT s.D (lagP s.D) H j ++ [(x.f, t.w)] else pickT s.D (lagP s.D) H j) := by
  have hlt := (List.getElem?_eq_some_iff.1 hx).1
  have hl1 : H.length = s.R.L.length := by have := congrArg List.length hH; simpa using this
  have hl2 := h.len
  obtain ⟨t, ht⟩ : ∃ t, s.R.L[j]? = some t := ⟨_, List.getElem?_eq_getElem (by omega)⟩
  obtain ⟨d, hd⟩ : ∃ d, s.D[j]? = some d := ⟨_, List.getElem?_eq_getElem (by omega)⟩
  have e1 : x.f = t.f := kqHead_f hH hx ht
  have e2 : (d.f, d.w) = (t.f, t.w) := by
    have := congrArg (fun l => l[j]?) h.pts
    unfold ptsOf at this
    simp only [List.getElem?_map, hd, ht] at this
    exact Option.some.inj this
  have e3 : d.f = t.f := congrArg Prod.fst e2
  have e4 : lagO s.D x.f = d.s := by
    unfold lagO
    rw [e1, ← e3, fget_memN h.lg.ok (List.mem_of_getElem? hd)]; rfl
  refine ⟨t, d, ht, hd, ?_, ?_⟩
  · rw [pickT_step hx hd, e2, e1]; rfl
  · rw [pickT_step hx hd, e2, e1]
    unfold lagP
    rw [e4]
    by_cases hc : x.good = true ∧ 0 < d.s
    · rw [if_pos hc, if_pos (by rw [Bool.and_eq_true, decide_eq_true_eq]; exact hc)]
    · rw [if_neg hc, if_neg (by rw [Bool.and_eq_true, decide_eq_true_eq]; exact hc)]
/-- Whether a flow is among those that could send. -/
theorem at_pick (h : CqInv i m N s) (hH : H.map (·.f) = s.R.L.map (·.f)) {k : Int} (hk : k ∈ s.R.L.map (·.f)) : 0 ≤ atF k 0 (allH s.D H) ↔ (headOf H k).good = true := by
  obtain ⟨h1, h2⟩ := headOf_mem (H := H) (f := k) (by rw [hH]; exact hk)
  have key : (∃ p ∈ allH s.D H, p.1 = k) ↔ (headOf H k).good = true := by
    have hz : ∀ (j : Nat) (x : Head), H[j]? = some x → ∃ d : Tg, s.D[j]? = some d ∧ d.f = x.f := fun j x hx => by
      obtain ⟨t, d, ht, hd, -, -⟩ := dec_at h hH hx
      have := congrArg (fun l => l[j]?) h.fl
      simp only [List.getElem?_map, hd, ht] at this
      exact ⟨d, hd, (Option.some.inj this).trans (kqHead_f hH hx ht).symm⟩
    unfold allH pickH
    constructor
    · rintro ⟨p, hp, he⟩
      obtain ⟨⟨x, q⟩, hq, rfl⟩ := List.mem_map.1 hp
      obtain ⟨hq1, hq2⟩ := List.mem_filter.1 hq
      obtain ⟨j, hj⟩ := List.getElem?_of_mem hq1
      rw [List.getElem?_zip_eq_some] at hj
      obtain ⟨d, hd, hdf⟩ := hz j x hj.1
      have hj2 := hj.2
      unfold ptsOf at hj2
      rw [List.getElem?_map, hd] at hj2
      have hqq : (d.f, d.w) = q := Option.some.inj hj2
      have hxk : x.f = k := by rw [← hdf, ← he, ← hqq]
      have hnd : (H.map (·.f)).Nodup := by
        rw [hH, ← h.fl, ← ptsOf_f]; exact h.dpt.uniq
      have : headOf H k = x := by
        obtain ⟨j2, hj2⟩ := List.getElem?_of_mem h1
        have hjl := (List.getElem?_eq_some_iff.1 hj.1).1
        have hjj : (H.map (·.f))[j]? = (H.map (·.f))[j2]? := by rw [List.getElem?_map, List.getElem?_map, hj.1, hj2]; simp [hxk, h2]
        have e : j = j2 := (List.getElem?_inj (by simpa using hjl) hnd).1 hjj
        subst e
        rw [hj.1] at hj2
        exact (Option.some.inj hj2).symm
      rw [this]; simpa using hq2
    · intro hg
      obtain ⟨j, hj⟩ := List.getElem?_of_mem h1
      obtain ⟨d, hd, hdf⟩ := hz j _ hj
      refine ⟨(d.f, d.w), List.mem_map.2 ⟨(headOf H k, (d.f, d.w)), List.mem_filter.2 ⟨?_, by simpa using hg⟩, rfl⟩, by rw [← h2]; exact hdf⟩
      refine List.mem_of_getElem? (i := j) ?_
      rw [List.getElem?_zip_eq_some]
      exact ⟨hj, by unfold ptsOf; rw [List.getElem?_map, hd]; rfl⟩
  rw [← key]
  rcases atF_some (f := k) (allH s.D H) 0 with ⟨a1, a2⟩ | ⟨j, wt, a1, a2, -⟩
  · rw [a2]
    exact ⟨fun x => by omega, fun ⟨p, hp, he⟩ => absurd he (a1 p hp)⟩
  · rw [a2]
    exact ⟨fun _ => ⟨_, List.mem_of_getElem? a1, rfl⟩, fun _ => by omega⟩
end
end Go.Proofs.YtjpahfkchhnpoaaGreat

/- The reference of cifq: the choice. -/
namespace Go.Proofs.YtjpahfkchhnpoaaGreat
open Go.RowKit
open SP
section
variable {w w' : World} {R : List SP} {b rp lp cp xp N M i m : Nat} {num den reb : Int} {P S Sp : SP} {s : Cq} {g : KqG} {H : List Head}

def DcRel (q : Nat) (D : List Tg) (H : List Head) (P0 : List SP) (w : World) (v5 v6 v7 : Value) (wr : World) : Prop :=
  ∃ (i : Nat) (a1 a2 : Option Addr) (c1 c2 : Nat), v7 = .int .i64 (i : Int) ∧ i ≤ H.length ∧ v6 = .slice a1 (pickT D goodP H i).length c1 ∧ v5 = .slice a2 (pickT D (lagP D) H i).length c2 ∧
    Own wr (slc 145 2 a1 (pickT D goodP H i).length c1 (flat part (pickT D goodP H i)) :: slc 145 2 a2 (pickT D (lagP D) H i).length c2 (flat part (pickT D (lagP D) H i)) ::
      cel q 89 [.int .i64 0, .int .i64 0, .int .i64 0] :: P0) ∧ Calm w wr
def DcPost (M b : Nat) (num den reb : Int) (P S Sp : SP) (s : Cq) (g : KqG) (H : List Head) (R : List SP) (w : World) (e : Ending) (w' : World) : Prop :=
  ∃ S' tC tX, KqRel M ⟨s.R, s.D, eligO s.C (lagH s.D H), eligO s.X (allH s.D H), s.n⟩ { g with tC := tC, tX := tX } ∧
    Ret (chV (chooseC num den ⟨s.R, s.D, eligO s.C (lagH s.D H), eligO s.X (allH s.D H), s.n⟩ H (!(allH s.D H).isEmpty)))
      (KqT P S' b num den reb ⟨s.R, s.D, eligO s.C (lagH s.D H), eligO s.X (allH s.D H), s.n⟩ { g with tC := tC, tX := tX } :: P :: S' :: Sp :: R) w e w'

theorem chRow4 {fn : Func} (h : fn.results = #[.cell 4 89]) {tmps : Array Value} {p : Nat} {x y z : Value} (hp : tmps.getD 4 undef = .pointer (some ⟨p, 0, none⟩))
    (o : Own w (cel p 89 [x, y, z] :: R)) : (results fn tmps).run Tryz.prog w = .ok (.agg #[x, y, z]) w :=
  results_cell_row h _ _ p _ _ _ _ hp o.blk Tryz.underlying89 rfl (by kernel_rfl)
/-- Eligible of the reference, of parts that are in order. -/
theorem refElig_ok {A : SP} {a : Option Addr} {n c : Nat} {L el tg : List (Int × Int)} {tm : Int} {tags : List Int} {reb : Int} (h : CsRel el tg tm tags tm) (hL : PtOk L) (hA : PartsAt A a L) (hn : n = L.length) (hn2 : n ≤ 1000)
    (o : Own w (A :: RefR S b reb el tags tm :: S :: R)) : Calls Tryz.prog 98 #[.pointer (some ⟨b, 0, none⟩), .slice a n c] w
      (fun e w' => ∃ S', PExt S S' ∧ Ret (.int .i64 0) (A :: RefR S' b reb L (tagsE el tm L tags) tm :: S' :: R) w e w') := by
  have hlen := h.elen
  refine (refElig_spec A a n c L hA hn hn2 (by omega) h.tval h.tm o).mono fun e w' hp => ?_
  unfold RefElig at hp
  rw [if_neg (by rw [hL.good]; simp)] at hp
  exact hp
theorem rel_elig {el tg : List (Int × Int)} {tm : Int} {tags : List Int} {L : List (Int × Int)} (h : CsRel el tg tm tags tm) (hL : PtOk L) : eligO ⟨el, tg, tm⟩ L = ⟨L, eligTg el tm L tg, tm⟩ ∧ CsRel L (eligTg el tm L tg) tm (tagsE el tm L tags) tm := by
  obtain ⟨h1, h2⟩ := h.elig hL.good
  refine ⟨?_, h1⟩
  unfold eligO
  rw [h2]
theorem rel_pos {el tg : List (Int × Int)} {tm now : Int} {tags : List Int} (h : CsRel el tg tm tags now) : 0 ≤ leastF el tg ↔ 0 < el.length := by
  rw [h.least]
  have hk := h.keys.2
  cases el with
  | nil => exact ⟨fun e => absurd (show (0 : Int) ≤ -1 from e) (by decide), fun e => absurd e (by simp)⟩
  | cons p l =>
    refine ⟨fun _ => by simp, fun _ => ?_⟩
    show 0 ≤ selL tags l p.1
    rcases selL_mem tags l p.1 with h1 | h1
    · rw [h1]; exact (hk p (by simp)).1
    · obtain ⟨q, hq, hqe⟩ := List.mem_map.1 h1
      rw [← hqe]; exact (hk q (by simp [hq])).1
theorem rel_sel {el tg : List (Int × Int)} {tm now reb : Int} {tags : List Int} (h : CsRel el tg tm tags now) (hp : 0 < el.length) (o : Own w (RefR S b reb el tags now :: S :: R)) :
    Calls Tryz.prog 100 #[.pointer (some ⟨b, 0, none⟩)] w (fun e w' => e = .returned (.tuple #[.int .i64 (leastF el tg), .int .i64 0]) ∧ ∃ m, w' = w.drewN m) := by
  have hlen := h.elen
  have h0 := (rel_pos h).2 hp
  have e : refSel tags el = .tuple #[.int .i64 (leastF el tg), .int .i64 0] := by
    rw [← h.sel]
    unfold selV
    rw [if_neg (by omega)]
  rw [← e]
  exact refSelect_spec (fun p hp => by have := h.keys.2 p hp; omega) (by omega) o
set_option maxHeartbeats 6400000 in
set_option maxRecDepth 100000 in
theorem decide_spec {nu de : Nat} (hnu : nu < 4194304) (hde : de < 4194304) (hm : m ≤ 1000) {a : Option Addr} {n c : Nat} (h : KqRel M s g) (hI : CqInv i m N s) (hH : H.map (·.f) = s.R.L.map (·.f)) (h1 : HeadsAt Sp a H) (hn : n = H.length) (hne : s.R.L ≠ [])
    (o : Own w (KqT P S b (nu : Int) (de : Int) reb s g :: P :: S :: Sp :: R)) :
    Calls Tryz.prog 69 #[.pointer (some ⟨b, 0, none⟩), .slice a n c] w (DcPost M b (nu : Int) (de : Int) reb P S Sp s g H R w) := by
  obtain ⟨rp, lp, cp, xp, o1⟩ := KqT.iff.1 o
  have hlen := h.r.ok.ok.len
  have hl1 : n = s.R.L.length := by have := congrArg List.length hH; rw [hn]; simpa using this
  have hl2 := hI.len
  have hn32 : n ≤ 32 := by omega
  have oA := o1.alloc (.cells #[.int .i64 0, .int .i64 0, .int .i64 0] 89)
  have hT : DcRel w.heap.size s.D H (KqC b (nu : Int) (de : Int) reb rp lp cp xp g.cs :: RefT P rp reb s.R.L g.O s.R.tm s.R.aw :: LedR P lp s.D :: RefR S cp reb s.C.el g.tC s.C.tm :: RefR S xp reb s.X.el g.tX s.X.tm :: P :: S :: Sp :: R) w (.slice none 0 0) (.slice none 0 0) (.int .i64 0) (w.alloc (.cells #[.int .i64 0, .int .i64 0, .int .i64 0] 89)) :=
    ⟨0, none, none, 0, 0, rfl, Nat.zero_le _, rfl, rfl, Own.slc_nil (Own.slc_nil oA), qcalm_alloc (Calm.refl w)⟩
  have HN := Lib.hid hn
  have HL1 := Lib.hid hl1
  have HL2 := Lib.hid hl2
  clear hn hl1 hl2 o o1 oA
  go_enter Tryz.func69, Tryz.ntmps69
  go_wp2
  go_loopw [5, 6, 7] (fun v5 v6 v7 wr => DcRel w.heap.size s.D H (KqC b (nu : Int) (de : Int) reb rp lp cp xp g.cs :: RefT P rp reb s.R.L g.O s.R.tm s.R.aw :: LedR P lp s.D :: RefR S cp reb s.C.el g.tC s.C.tm :: RefR S xp reb s.X.el g.tX s.X.tm :: P :: S :: Sp :: R) w v5 v6 v7 wr) (fun _ _ v _ => n - (Lib.intOf v).toNat)
  case atStart => exact hT
  case round =>
    clear hT
    obtain ⟨j, a1, a2, q1, q2, rfl, hj, rfl, rfl, oR, kR⟩ := hrel
    by_cases hlt : j < n
    · obtain ⟨x, hx⟩ : ∃ x, H[j]? = some x := ⟨_, List.getElem?_eq_getElem (by have := HN.out; omega)⟩
      obtain ⟨t, d, ht, hd, st1, st2⟩ := dec_at hI hH hx
      have l1 := pickT_len s.D goodP H j
      have l2 := pickT_len s.D (lagP s.D) H j
      obtain ⟨gg, rfl, d0, d1, d2⟩ := h1 _ _ (oR.up 10) j _ hx
      have c3 := kq_ptr 3 (oR.up 3) (.inl ⟨rfl, rfl⟩)
      have c4 := kq_ptr 4 (oR.up 3) (.inr (.inl ⟨rfl, rfl⟩))
      have bl := (oR.up 3).celLt
      obtain ⟨ar, cr, ao, co, hpu, oT⟩ := RefT.iff.1 (oR.up 4)
      have e1 := oT.cell 1
      obtain ⟨al, cl, hpl, oL⟩ := LedR.iff.1 (oT.up 5)
      have l0 := oL.cell 0
      obtain ⟨g', so, rfl, t0, t1, t2⟩ := hpu.1.1 _ _ (oL.up 8) j _ ht
      obtain ⟨gl, sl, rfl, u0, u1, u2⟩ := hpl.1.1 _ _ (oL.up 8) j _ hd
      have HPU := Lib.hid hpu
      have HPL := Lib.hid hpl
      have HT := Lib.hid ht
      have HD := Lib.hid hd
      have HX := Lib.hid hx
      have hjL : j < s.R.L.length := (List.getElem?_eq_some_iff.1 ht).1
      have hjD : j < s.D.length := (List.getElem?_eq_some_iff.1 hd).1
      have ll := oL.celLt
      have lr := (oL.up 1).celLt
      have oB := oL.alloc (.cells #[.int .i64 x.f, .int .i64 t.w] 145)
      clear ht hd hx hpu hpl
      cases hg : x.good with
      | false =>
        rw [hg] at st1 st2 d2
        simp only [Bool.false_eq_true, false_and, if_false] at st1 st2
        have ST1 := Lib.hid st1
        have ST2 := Lib.hid st2
        clear st1 st2
        go_wp2_with fail
        go_region_held3 (fun w' => w'.cell? ⟨b, 3, none⟩ = some (.pointer (some ⟨rp, 0, none⟩)) ∧ w'.cell? ⟨rp, 1, none⟩ = some (.slice (some ⟨g', so, none⟩) s.R.L.length cr) ∧ w'.cell? ⟨g', so + j * 3 + 1, none⟩ = some (.int .i64 t.w) ∧ w'.cell? ⟨gg, j * 3, none⟩ = some (.int .i64 x.f)) (go_keep) (fail)
        have KB := qcalm_drew (qcalm_alloc (x := .cells #[.int .i64 x.f, .int .i64 t.w] 145) kR)
        have oL2 : Own _ (LedR P lp s.D :: _) := LedR.iff.2 ⟨_, _, HPL.out, oB.drew.re [1]⟩
        have oT2 : Own _ (RefT P rp reb s.R.L g.O s.R.tm s.R.aw :: _) := RefT.iff.2 ⟨_, _, _, _, HPU.out, oL2.re [2]⟩
        have HO := Lib.hid ((oT2.re [2] 1).re [2, 3, 4, 5, 0, 1])
        obtain ⟨_, hgg, _, _, f2⟩ := h1 _ _ (oB.drew.up 11) j _ HX.out
        cases hgg
        rw [hg] at f2
        clear oL2 oT2 oB oL oR oT
        go_wp2
        go_roundw
        case rel =>
          refine ⟨j + 1, a1, a2, q1, q2, by go_num, by have := HN.out; omega, by rw [ST1.out], by rw [ST2.out], ?_, KB⟩
          rw [ST1.out, ST2.out]
          exact HO.out
        case measure => simp [Lib.intOf]; omega
      | true =>
        rw [hg] at st1 st2 d2
        simp only [true_and, if_true] at st1 st2
        have hfl : flat part (pickT s.D goodP H j) ++ [.int .i64 x.f, .int .i64 t.w] = flat part (pickT s.D goodP H (j + 1)) := by rw [st1]; unfold flat; simp [part]
        have HFL := Lib.hid hfl
        have ST1 := Lib.hid st1
        have HST2 := Lib.hid st2
        clear st1 st2 hfl
        go_wp2_with fail
        go_region_held3 (fun w' => w'.cell? ⟨b, 3, none⟩ = some (.pointer (some ⟨rp, 0, none⟩)) ∧ w'.cell? ⟨rp, 1, none⟩ = some (.slice (some ⟨g', so, none⟩) s.R.L.length cr) ∧ w'.cell? ⟨g', so + j * 3 + 1, none⟩ = some (.int .i64 t.w) ∧ w'.cell? ⟨gg, j * 3, none⟩ = some (.int .i64 x.f)) (go_keep) (fail)
        obtain ⟨_, hgg, _, _, f2⟩ := h1 _ _ (oB.drew.up 11) j _ HX.out
        cases hgg
        rw [hg] at f2
        have oA := (oB.alloc (.cells #[.int .i64 x.f, .int .i64 t.w] 145)).drew
        simp only [World.size_alloc] at oA
        go_wp2_with (at_builtin; refine wpList_append_slc rfl _ _ rfl Tryz.partT rfl (oA.up 4) ⟨wr.heap.size + 1, 0, none⟩ 1 1 [.int .i64 x.f, .int .i64 t.w] rfl rfl ?c1 ?c2 ?c3 ?c4 ?c5)
        case c1 => exact Own.news (T := 145) oA
        case c2 => intro u hu; simp at hu; rcases hu with rfl | rfl <;> rfl
        case c3 => unfold maxLen; omega
        case c4 => omega
        case c5 =>
        intro a3 q3 w5 o5 k5
        rw [HFL.out] at o5
        have K5 := (qcalm_drew (qcalm_alloc (x := .cells #[.int .i64 x.f, .int .i64 t.w] 145) (qcalm_alloc (x := .cells #[.int .i64 x.f, .int .i64 t.w] 145) kR))).trans k5
        have z1 : (pickT s.D goodP H j).length + 1 = (pickT s.D goodP H (j + 1)).length := by rw [ST1.out, List.length_append]; rfl
        rw [z1] at o5
        clear oA oB oL oR oT f2 d0 d1 d2 c3 e1 t0 t1 t2 k5
        have m4 := kq_ptr 4 (o5.up 7) (.inr (.inl ⟨rfl, rfl⟩))
        have m5 := (o5.up 3).cell 0
        obtain ⟨_, _, hgl, _, _, m6⟩ := HPL.out.1.1 _ _ (o5.up 10) j _ HD.out
        cases hgl
        have y0 := Own.cell (T := 145) (vs := [.int .i64 x.f, .int .i64 t.w]) (o5.up 2) 0
        have y1 := Own.cell (T := 145) (vs := [.int .i64 x.f, .int .i64 t.w]) (o5.up 2) 1
        clear c4 l0 u0 u1 u2
        by_cases hlg : 0 < d.s
        · have hst := HST2.out
          rw [if_pos hlg] at hst
          have hfl2 : flat part (pickT s.D (lagP s.D) H j) ++ [.int .i64 x.f, .int .i64 t.w] = flat part (pickT s.D (lagP s.D) H (j + 1)) := by rw [hst]; unfold flat; simp [part]
          have z2 : (pickT s.D (lagP s.D) H j).length + 1 = (pickT s.D (lagP s.D) H (j + 1)).length := by rw [hst, List.length_append]; rfl
          have HFL2 := Lib.hid hfl2
          have HZ2 := Lib.hid z2
          have HZ1 := Lib.hid z1
          have hdg : decide (0 < d.s) = true := decide_eq_true hlg
          clear hst hfl2 z2 z1 hlg
          have oC := o5.alloc (.cells #[.int .i64 x.f, .int .i64 t.w] 145)
          go_wp2_with (at_builtin; refine wpList_append_slc rfl _ _ rfl Tryz.partT rfl (oC.up 6) ⟨w5.heap.size, 0, none⟩ 1 1 [.int .i64 x.f, .int .i64 t.w] rfl rfl ?d1 ?d2 ?d3 ?d4 ?d5)
          case d1 => exact Own.news (T := 145) oC
          case d2 => intro u hu; simp at hu; rcases hu with rfl | rfl <;> rfl
          case d3 => unfold maxLen; omega
          case d4 => omega
          case d5 =>
          intro a4 q4 w7 o9 k9
          rw [HFL2.out, HZ2.out] at o9
          have K9 := (qcalm_alloc (x := .cells #[.int .i64 x.f, .int .i64 t.w] 145) K5).trans k9
          have oL2 : Own _ (LedR P lp s.D :: _) := LedR.iff.2 ⟨_, _, HPL.out, o9.re [5]⟩
          have oT2 : Own _ (RefT P rp reb s.R.L g.O s.R.tm s.R.aw :: _) := RefT.iff.2 ⟨_, _, _, _, HPU.out, oL2.re [6]⟩
          have HO := Lib.hid ((oT2.re [3, 5, 6] 3).re [3, 2, 4, 5, 0, 1])
          clear oL2 oT2 oC o5 o9 m4 m5 m6 y0 y1
          go_wp2
          go_roundw
          case rel =>
            refine ⟨j + 1, a3, a4, q3, q4, by go_num, by have := HN.out; omega, by rw [← HZ1.out], by rw [← HZ2.out], HO.out, K9⟩
          case measure => simp [Lib.intOf]; omega
        · have hst := HST2.out
          rw [if_neg hlg] at hst
          have ST2 := Lib.hid hst
          have HZ1 := Lib.hid z1
          have hdg : decide (0 < d.s) = false := decide_eq_false hlg
          clear hst z1 hlg
          have oL2 : Own _ (LedR P lp s.D :: _) := LedR.iff.2 ⟨_, _, HPL.out, o5.re [3]⟩
          have oT2 : Own _ (RefT P rp reb s.R.L g.O s.R.tm s.R.aw :: _) := RefT.iff.2 ⟨_, _, _, _, HPU.out, oL2.re [4]⟩
          have HO := Lib.hid ((oT2.re [3, 4] 2).re [2, 3, 4, 5, 0, 1])
          clear oL2 oT2 o5
          go_wp2
          go_roundw
          case rel =>
            refine ⟨j + 1, a3, a2, q3, q2, by go_num, by have := HN.out; omega, by rw [← HZ1.out], by rw [ST2.out], ?_, K5⟩
            rw [ST2.out]
            exact HO.out
          case measure => simp [Lib.intOf]; omega
    · have hjn : H.length ≤ j := by have := HN.out; omega
      have p1 : pickT s.D goodP H j = allH s.D H := pickT_all hjn
      have p2 : pickT s.D (lagP s.D) H j = lagH s.D H := pickT_all hjn
      rw [p1, p2] at oR ⊢
      have hA : PtOk (allH s.D H) := hI.dpt.sub (pickH_sub s.D _ H)
      have hL : PtOk (lagH s.D H) := hI.dpt.sub (pickH_sub s.D _ H)
      have lA : (allH s.D H).length ≤ 32 := by rw [← p1]; exact Nat.le_trans (pickT_len _ _ _ _) (by have := HN.out; omega)
      have lL : (lagH s.D H).length ≤ 32 := by rw [← p2]; exact Nat.le_trans (pickT_len _ _ _ _) (by have := HN.out; omega)
      obtain ⟨ec, rc⟩ := rel_elig h.c hL
      obtain ⟨ex, rx⟩ := rel_elig h.x hA
      have ec' : eligO s.C (lagH s.D H) = ⟨lagH s.D H, eligTg s.C.el s.C.tm (lagH s.D H) s.C.tg, s.C.tm⟩ := ec
      have ex' : eligO s.X (allH s.D H) = ⟨allH s.D H, eligTg s.X.el s.X.tm (allH s.D H) s.X.tg, s.X.tm⟩ := ex
      have HEC := Lib.hid ec'
      have HEX := Lib.hid ex'
      have c5 := kq_ptr 5 (oR.up 3) (.inr (.inr (.inl ⟨rfl, rfl⟩)))
      have cb := (oR.up 3).celLt
      have hc1 := refElig_ok (c := q2) h.c hL (partsAt_slc a2 _ q2 _ rfl) rfl (by omega) (oR.re [1, 6, 9])
      have HRC := Lib.hid rc
      have HRX := Lib.hid rx
      have HEA := Lib.hid hA
      have HEL := Lib.hid hL
      have HHX := Lib.hid h.x
      have HKA := Lib.hid (fun k hk => at_pick hI hH (k := k) hk)
      clear rc rx ec ex ec' ex' p1 p2 hA hL
      obtain ⟨A, hA⟩ : ∃ A, allH s.D H = A := ⟨_, rfl⟩
      obtain ⟨Lg, hLg⟩ : ∃ L, lagH s.D H = L := ⟨_, rfl⟩
      rw [hA] at oR HRX HEA HKA lA HEX hc1 ⊢
      rw [hLg] at oR HRC HEL lL hc1 HEC ⊢
      have HA := Lib.hid hA
      have HLg := Lib.hid hLg
      clear hA hLg
      go_wp2_with fail
      refine hc1.mono ?_
      rintro e1 w1 ⟨S1, hS1, rfl, o1, k1⟩
      clear hc1 oR c5
      have HR1 := Lib.hid (show CsRel A _ _ _ _ from HRX.out)
      have c6 := kq_ptr 6 (o1.up 5) (.inr (.inr (.inr ⟨rfl, rfl⟩)))
      have hx1 := refElig_ok (c := q1) HHX.out HEA.out (partsAt_slc a1 _ q1 _ rfl) rfl (by omega) ((RefR.mono hS1 (o1.up 8)).re [4, 0, 3])
      go_wp2_with fail
      refine hx1.mono ?_
      rintro e2 w2 ⟨S2, hS2, rfl, o2, k2⟩
      clear hx1 c6
      have o2' := RefR.mono hS2 (o2.up 4)
      have c3 := kq_ptr 3 (o2'.up 6) (.inl ⟨rfl, rfl⟩)
      have hse := selectT_spec h.r.ok.ok (o2'.re [7, 9])
      obtain ⟨hs, hk⟩ := selT_mem hne
      rw [hs] at hse
      go_wp2_with fail
      refine hse.mono ?_
      rintro e3 w3 ⟨rfl, o3, k3⟩
      clear hse c3 o2 o2'
      have c4 := kq_ptr 4 (o3.up 8) (.inr (.inl ⟨rfl, rfl⟩))
      obtain ⟨K, hK⟩ : ∃ K, (lst s.R.L).f = K := ⟨_, rfl⟩
      rw [hK] at hs hk ⊢
      have hlg := ledLag_spec (w := w3) K (by have := HL2.out; omega) (o3.re [9, 1])
      obtain ⟨z, hz⟩ := lagV_eq s.D K
      rw [hz] at hlg
      go_wp2_with fail
      refine hlg.mono ?_
      rintro e4 w4 ⟨rfl, rfl⟩
      clear hlg c4
      have lA2 : A.length ≤ 1000 := by omega
      have oS := o3.up 3
      have hat := at_spec (l := A) (n := A.length) (c := q1) K (partsAt_slc a1 _ q1 A rfl) rfl lA2 oS
      go_wp2_with fail
      refine hat.mono ?_
      rintro e5 w5 ⟨rfl, rfl⟩
      clear hat
      have hKr := h.r.ok.ok.rng _ (lst_mem hne)
      obtain ⟨kn, hkn⟩ : ∃ kn : Nat, K = (kn : Int) := ⟨K.toNat, by omega⟩
      have hk32 : kn < 32 := by omega
      obtain ⟨cr, cl, hcnt, hcr, hcl⟩ : ∃ cr cl : Nat, cntO s.n (kn : Int) = ((cr : Int), (cl : Int)) ∧ cr < 4294967296 ∧ cl < 4294967296 := by
        have hc := hI.cnt (kn : Int)
        have : (m : Int) * 4096 ≤ 4096000 := by omega
        exact ⟨(cntO s.n (kn : Int)).1.toNat, (cntO s.n (kn : Int)).2.toNat, Prod.ext (by dsimp only; omega) (by dsimp only; omega), by omega, by omega⟩
      have hgc : g.cs[kn]? = some ((cr : Int), (cl : Int)) := by
        have h1 := h.cn kn hk32
        obtain ⟨y, hy⟩ : ∃ y, g.cs[kn]? = some y := ⟨_, List.getElem?_eq_getElem (by rw [h.cl]; exact hk32)⟩
        rw [List.getD_eq_getElem?_getD, hy, hcnt] at h1
        rw [hy]; exact congrArg some h1
      subst hkn
      obtain ⟨z5, hz5⟩ : ∃ z5, atF (kn : Int) 0 A = z5 := ⟨_, rfl⟩
      obtain ⟨lg, hlgE⟩ : ∃ lg, lagO s.D (kn : Int) = lg := ⟨_, rfl⟩
      have hgd := HKA.out (kn : Int) hk
      rw [hz5] at hgd ⊢
      rw [hlgE]
      have oW := (o3.re [3, 6] 2).re [5, 6, 0, 7, 2, 3, 1, 4]
      have kW : Calm w w3 := kR.trans (k1.trans (k2.trans k3))
      clear o1 o3 oS k1 k2 k3 kR
      have HFIN := Lib.hid (fun (V : Chc) (w' : World) (hV : chooseC (nu : Int) (de : Int) ⟨s.R, s.D, ⟨Lg, eligTg s.C.el s.C.tm Lg s.C.tg, s.C.tm⟩, ⟨A, eligTg s.X.el s.X.tm A s.X.tg, s.X.tm⟩, s.n⟩ H (!A.isEmpty) = V)
          (o : Own w' (KqC b (nu : Int) (de : Int) reb rp lp cp xp g.cs :: RefT P rp reb s.R.L g.O s.R.tm s.R.aw :: LedR P lp s.D :: RefR S2 cp reb Lg (tagsE s.C.el s.C.tm Lg g.tC) s.C.tm :: RefR S2 xp reb A (tagsE s.X.el s.X.tm A g.tX) s.X.tm :: P :: S2 :: Sp :: R)) (k : Calm w w') =>
          show DcPost M b (nu : Int) (de : Int) reb P S Sp s g H R w (.returned (chV V)) w' from by
        unfold DcPost
        rw [HA.out, HLg.out, HEC.out, HEX.out, hV]
        exact ⟨S2, tagsE s.C.el s.C.tm Lg g.tC, tagsE s.X.el s.X.tm A g.tX, ⟨h.r, HRC.out, HRX.out, h.cl, h.cn⟩, rfl, KqT.iff.2 ⟨rp, lp, cp, xp, o⟩, k⟩)
      have HCH : Hid (chooseC (nu : Int) (de : Int) ⟨s.R, s.D, ⟨Lg, eligTg s.C.el s.C.tm Lg s.C.tg, s.C.tm⟩, ⟨A, eligTg s.X.el s.X.tm A s.X.tg, s.X.tm⟩, s.n⟩ H (!A.isEmpty) =
          (if ((headOf H (kn : Int)).good && (!decide (lg < 0) || keepsO (nu : Int) (de : Int) (((cr : Int), (cl : Int))))) = true then ⟨(kn : Int), (kn : Int), 1⟩
          else if 0 ≤ leastF Lg (eligTg s.C.el s.C.tm Lg s.C.tg) then ⟨(kn : Int), leastF Lg (eligTg s.C.el s.C.tm Lg s.C.tg), if (headOf H (kn : Int)).good = true then 2 else 3⟩
          else if (headOf H (kn : Int)).good = true then ⟨(kn : Int), (kn : Int), 1⟩
          else if (!A.isEmpty) = true then ⟨(kn : Int), if 0 ≤ leastF A (eligTg s.X.el s.X.tm A s.X.tg) then leastF A (eligTg s.X.el s.X.tm A s.X.tg) else 0, 4⟩
          else chIdle)) := by
        refine Lib.hid ?_
        unfold chooseC
        dsimp only
        rw [hs]
        dsimp only
        rw [hlgE, hcnt]
      clear hlgE hz5 HA HLg HEC HEX HKA HEA HEL HHX HR1 h hI hH HL1 HL2 hz
      have hx : g.cs[kn]? = some ((cr : Int), (cl : Int)) := hgc
      have HCNT := Lib.hid (fun (w : World) (R : List SP) (o : Own w (KqC b (nu : Int) (de : Int) reb rp lp cp xp g.cs :: R)) => show w.cell? ⟨b, 7 + kn * 2, none⟩ = some (.int .i64 (cr : Int)) ∧ w.cell? ⟨b, 7 + kn * 2 + 1, none⟩ = some (.int .i64 (cl : Int)) from by
        have k0 := Own.cell o (7 + (kn * 2 + 0)) (v := .int .i64 (cr : Int)) (by rw [kq_cnt hx (by omega)]; rfl)
        have k1 := Own.cell o (7 + (kn * 2 + 1)) (v := .int .i64 (cl : Int)) (by rw [kq_cnt hx (by omega)]; rfl)
        rw [Nat.add_zero] at k0
        rw [show 7 + (kn * 2 + 1) = 7 + kn * 2 + 1 by omega] at k1
        exact ⟨k0, k1⟩)
      have HPC := Lib.hid (rel_pos HRC.out)
      have HPX := Lib.hid (rel_pos HRX.out)
      have HSC := Lib.hid (fun (w : World) (R : List SP) (hp : 0 < Lg.length) (o : Own w (RefR S2 cp reb Lg (tagsE s.C.el s.C.tm Lg g.tC) s.C.tm :: S2 :: R)) => rel_sel HRC.out hp o)
      have HSX := Lib.hid (fun (w : World) (R : List SP) (hp : 0 < A.length) (o : Own w (RefR S2 xp reb A (tagsE s.X.el s.X.tm A g.tX) s.X.tm :: S2 :: R)) => rel_sel HRX.out hp o)
      obtain ⟨nl, hnl⟩ : ∃ nl, Lg.length = nl := ⟨_, rfl⟩
      obtain ⟨na, hna⟩ : ∃ na, A.length = na := ⟨_, rfl⟩
      rw [hnl] at HPC HSC lL
      rw [hna] at HPX HSX lA
      rw [hnl, hna]
      have HNA := Lib.hid hna
      clear hgc hx hnl hna
      have hq1 : (kn : Int) < 32 := by omega
      have hq0 : (0 : Int) ≤ (kn : Int) := by omega
      by_cases hcan : (headOf H (kn : Int)).good = true
      · have hz5 : decide (0 ≤ z5) = true := decide_eq_true (hgd.2 hcan)
        clear hgd
        by_cases hlt0 : lg < 0
        · have hl0 : decide (0 ≤ lg) = false := decide_eq_false (by omega)
          have hkp := refKeeps_spec hnu hde hcr hcl oW.drew
          have m0 : w3.cell? ⟨b, 0, none⟩ = some (.int .i64 (nu : Int)) := (oW.up 1).cell 0
          have m1 : w3.cell? ⟨b, 1, none⟩ = some (.int .i64 (de : Int)) := (oW.up 1).cell 1
          obtain ⟨m2, m3⟩ := HCNT.out _ _ (oW.up 1)
          have mb := (oW.up 1).celLt
          have HW := Lib.hid (And.intro hcan hlt0)
          clear hcan hlt0
          obtain ⟨kp, hkpE⟩ : ∃ kp, keepsO (nu : Int) (de : Int) ((cr : Int), (cl : Int)) = kp := ⟨_, rfl⟩
          rw [hkpE] at hkp
          have HKE := Lib.hid hkpE
          clear hkpE
          go_upto_region 15 with fail
          go_region_held3 (fun w' => w'.cell? ⟨b, 0, none⟩ = some (.int .i64 (nu : Int)) ∧ w'.cell? ⟨b, 1, none⟩ = some (.int .i64 (de : Int)) ∧ w'.cell? ⟨b, 7 + kn * 2, none⟩ = some (.int .i64 (cr : Int)) ∧ w'.cell? ⟨b, 7 + kn * 2 + 1, none⟩ = some (.int .i64 (cl : Int))) (go_keep) (first | (go_at_call 72; (with_reducible refine hkp.mono ?_); rintro e6 w6 ⟨rfl, o6, k6⟩; have n0 : w6.cell? ⟨b, 0, none⟩ = some (.int .i64 (nu : Int)) := (o6.up 1).cell 0; have n1 : w6.cell? ⟨b, 1, none⟩ = some (.int .i64 (de : Int)) := (o6.up 1).cell 1; obtain ⟨n2, n3⟩ := HCNT.out _ _ (o6.up 1)))
          clear m0 m1 m2 m3 hkp
          have kX := (qcalm_drew kW).trans k6
          cases kp with
          | true =>
            have z0 := Own.cell (T := 89) (vs := [.int .i64 0, .int .i64 0, .int .i64 0]) o6 0
            have z1 := Own.cell (T := 89) (vs := [.int .i64 0, .int .i64 0, .int .i64 0]) o6 1
            have z2 := Own.cell (T := 89) (vs := [.int .i64 0, .int .i64 0, .int .i64 0]) o6 2
            have zf := Own.frozen (T := 89) (vs := [.int .i64 0, .int .i64 0, .int .i64 0]) o6
            have zl := Own.celLt (T := 89) (vs := [.int .i64 0, .int .i64 0, .int .i64 0]) o6
            have y5 := Own.setCell (T := 89) (vs := [.int .i64 0, .int .i64 0, .int .i64 0]) o6 0 (.int .i64 (kn : Int))
            have y6 := Own.setCell (T := 89) (vs := [.int .i64 (kn : Int), .int .i64 0, .int .i64 0]) y5 1 (.int .i64 (kn : Int))
            have y7 := Own.setCell (T := 89) (vs := [.int .i64 (kn : Int), .int .i64 (kn : Int), .int .i64 0]) y6 2 (.int .i64 1)
            have KZ : Calm w _ := qcalm_set (x := ⟨w.heap.size, 2, none⟩) (v := .int .i64 1) (qcalm_set (x := ⟨w.heap.size, 1, none⟩) (v := .int .i64 (kn : Int)) (qcalm_set (x := ⟨w.heap.size, 0, none⟩) (v := .int .i64 (kn : Int)) (kX)))
            have HDN := Lib.hid (HFIN.out ⟨(kn : Int), (kn : Int), 1⟩ _ (by rw [HCH.out, if_pos (by rw [HW.out.1, HKE.out, Bool.or_true]; rfl)]) y7.drop KZ)
            go_wp2
            refine bodyPost_ret (v := .agg #[.int .i64 (kn : Int), .int .i64 (kn : Int), .int .i64 1]) ?_ rfl ?_
            · exact chRow4 (p := w.heap.size) rfl rfl y7
            · exact HDN.out
          | false =>
            by_cases hp : 0 < nl
            · have hlp : decide (0 < (nl : Int)) = true := decide_eq_true (by omega)
              have hsel := HSC.out _ _ hp (o6.re [4, 7])
              have d5 := kq_ptr 5 (o6.up 1) (.inr (.inr (.inl ⟨rfl, rfl⟩)))
              have HJ := Lib.hid (HPC.out.2 hp)
              obtain ⟨J, hJ⟩ : ∃ J, leastF Lg (eligTg s.C.el s.C.tm Lg s.C.tg) = J := ⟨_, rfl⟩
              rw [hJ] at hsel HJ
              have HJE := Lib.hid hJ
              clear hJ
              go_wp2_with fail
              refine hsel.mono ?_
              rintro e7 w7 ⟨rfl, m7, rfl⟩
              clear hsel d5
              have z0 := Own.cell (T := 89) (vs := [.int .i64 0, .int .i64 0, .int .i64 0]) (o6.drewN m7) 0
              have z1 := Own.cell (T := 89) (vs := [.int .i64 0, .int .i64 0, .int .i64 0]) (o6.drewN m7) 1
              have z2 := Own.cell (T := 89) (vs := [.int .i64 0, .int .i64 0, .int .i64 0]) (o6.drewN m7) 2
              have zf := Own.frozen (T := 89) (vs := [.int .i64 0, .int .i64 0, .int .i64 0]) (o6.drewN m7)
              have zl := Own.celLt (T := 89) (vs := [.int .i64 0, .int .i64 0, .int .i64 0]) (o6.drewN m7)
              have y5 := Own.setCell (T := 89) (vs := [.int .i64 0, .int .i64 0, .int .i64 0]) (o6.drewN m7) 0 (.int .i64 (kn : Int))
              have y6 := Own.setCell (T := 89) (vs := [.int .i64 (kn : Int), .int .i64 0, .int .i64 0]) y5 1 (.int .i64 J)
              have y7 := Own.setCell (T := 89) (vs := [.int .i64 (kn : Int), .int .i64 J, .int .i64 0]) y6 2 (.int .i64 2)
              have KZ : Calm w _ := qcalm_set (x := ⟨w.heap.size, 2, none⟩) (v := .int .i64 2) (qcalm_set (x := ⟨w.heap.size, 1, none⟩) (v := .int .i64 J) (qcalm_set (x := ⟨w.heap.size, 0, none⟩) (v := .int .i64 (kn : Int)) (kX.dn m7)))
              have HDN := Lib.hid (HFIN.out ⟨(kn : Int), J, 2⟩ _ (by rw [HCH.out, if_neg (by rw [HW.out.1, HKE.out, decide_eq_true HW.out.2]; simp), HJE.out, if_pos HJ.out, if_pos HW.out.1]) y7.drop KZ)
              go_wp2
              refine bodyPost_ret (v := .agg #[.int .i64 (kn : Int), .int .i64 J, .int .i64 2]) ?_ rfl ?_
              · exact chRow4 (p := w.heap.size) rfl rfl y7
              · exact HDN.out
            · obtain rfl : nl = 0 := by omega
              have HJ := Lib.hid (fun e => hp (HPC.out.1 e))
              clear hp
              have z0 := Own.cell (T := 89) (vs := [.int .i64 0, .int .i64 0, .int .i64 0]) o6 0
              have z1 := Own.cell (T := 89) (vs := [.int .i64 0, .int .i64 0, .int .i64 0]) o6 1
              have z2 := Own.cell (T := 89) (vs := [.int .i64 0, .int .i64 0, .int .i64 0]) o6 2
              have zf := Own.frozen (T := 89) (vs := [.int .i64 0, .int .i64 0, .int .i64 0]) o6
              have zl := Own.celLt (T := 89) (vs := [.int .i64 0, .int .i64 0, .int .i64 0]) o6
              have y5 := Own.setCell (T := 89) (vs := [.int .i64 0, .int .i64 0, .int .i64 0]) o6 0 (.int .i64 (kn : Int))
              have y6 := Own.setCell (T := 89) (vs := [.int .i64 (kn : Int), .int .i64 0, .int .i64 0]) y5 1 (.int .i64 (kn : Int))
              have y7 := Own.setCell (T := 89) (vs := [.int .i64 (kn : Int), .int .i64 (kn : Int), .int .i64 0]) y6 2 (.int .i64 1)
              have KZ : Calm w _ := qcalm_set (x := ⟨w.heap.size, 2, none⟩) (v := .int .i64 1) (qcalm_set (x := ⟨w.heap.size, 1, none⟩) (v := .int .i64 (kn : Int)) (qcalm_set (x := ⟨w.heap.size, 0, none⟩) (v := .int .i64 (kn : Int)) (kX)))
              have HDN := Lib.hid (HFIN.out ⟨(kn : Int), (kn : Int), 1⟩ _ (by rw [HCH.out, if_neg (by rw [HW.out.1, HKE.out, decide_eq_true HW.out.2]; simp), if_neg HJ.out, if_pos HW.out.1]) y7.drop KZ)
              go_wp2
              refine bodyPost_ret (v := .agg #[.int .i64 (kn : Int), .int .i64 (kn : Int), .int .i64 1]) ?_ rfl ?_
              · exact chRow4 (p := w.heap.size) rfl rfl y7
              · exact HDN.out
        · have hl0 : decide (0 ≤ lg) = true := decide_eq_true (by omega)
          have HW := Lib.hid (And.intro hcan hlt0)
          clear hcan hlt0
          go_upto_region 15 with fail
          go_quiet (fail)
          have z0 := Own.cell (T := 89) (vs := [.int .i64 0, .int .i64 0, .int .i64 0]) (oW.drewN nq) 0
          have z1 := Own.cell (T := 89) (vs := [.int .i64 0, .int .i64 0, .int .i64 0]) (oW.drewN nq) 1
          have z2 := Own.cell (T := 89) (vs := [.int .i64 0, .int .i64 0, .int .i64 0]) (oW.drewN nq) 2
          have zf := Own.frozen (T := 89) (vs := [.int .i64 0, .int .i64 0, .int .i64 0]) (oW.drewN nq)
          have zl := Own.celLt (T := 89) (vs := [.int .i64 0, .int .i64 0, .int .i64 0]) (oW.drewN nq)
          have y5 := Own.setCell (T := 89) (vs := [.int .i64 0, .int .i64 0, .int .i64 0]) (oW.drewN nq) 0 (.int .i64 (kn : Int))
          have y6 := Own.setCell (T := 89) (vs := [.int .i64 (kn : Int), .int .i64 0, .int .i64 0]) y5 1 (.int .i64 (kn : Int))
          have y7 := Own.setCell (T := 89) (vs := [.int .i64 (kn : Int), .int .i64 (kn : Int), .int .i64 0]) y6 2 (.int .i64 1)
          have KZ : Calm w _ := qcalm_set (x := ⟨w.heap.size, 2, none⟩) (v := .int .i64 1) (qcalm_set (x := ⟨w.heap.size, 1, none⟩) (v := .int .i64 (kn : Int)) (qcalm_set (x := ⟨w.heap.size, 0, none⟩) (v := .int .i64 (kn : Int)) (kW.dn nq)))
          have HDN := Lib.hid (HFIN.out ⟨(kn : Int), (kn : Int), 1⟩ _ (by rw [HCH.out, if_pos (by rw [HW.out.1, decide_eq_false (by have := HW.out.2; omega)]; rfl)]) y7.drop KZ)
          go_wp2
          refine bodyPost_ret (v := .agg #[.int .i64 (kn : Int), .int .i64 (kn : Int), .int .i64 1]) ?_ rfl ?_
          · exact chRow4 (p := w.heap.size) rfl rfl y7
          · exact HDN.out
      · have hz5 : decide (0 ≤ z5) = false := decide_eq_false (fun e => hcan (hgd.1 e))
        have HW := Lib.hid hcan
        clear hgd hcan
        go_upto_region 15 with fail
        go_quiet (fail)
        have oQ := oW.drewN nq
        have kQ := kW.dn nq

        by_cases hp : 0 < nl
        · have hlp : decide (0 < (nl : Int)) = true := decide_eq_true (by omega)
          have hsel := HSC.out _ _ hp (oQ.re [4, 7])
          have d5 := kq_ptr 5 (oQ.up 1) (.inr (.inr (.inl ⟨rfl, rfl⟩)))
          have HJ := Lib.hid (HPC.out.2 hp)
          obtain ⟨J, hJ⟩ : ∃ J, leastF Lg (eligTg s.C.el s.C.tm Lg s.C.tg) = J := ⟨_, rfl⟩
          rw [hJ] at hsel HJ
          have HJE := Lib.hid hJ
          clear hJ
          go_wp2_with fail
          refine hsel.mono ?_
          rintro e7 w7 ⟨rfl, m7, rfl⟩
          clear hsel d5
          have z0 := Own.cell (T := 89) (vs := [.int .i64 0, .int .i64 0, .int .i64 0]) (oW.drewN (nq + m7)) 0
          have z1 := Own.cell (T := 89) (vs := [.int .i64 0, .int .i64 0, .int .i64 0]) (oW.drewN (nq + m7)) 1
          have z2 := Own.cell (T := 89) (vs := [.int .i64 0, .int .i64 0, .int .i64 0]) (oW.drewN (nq + m7)) 2
          have zf := Own.frozen (T := 89) (vs := [.int .i64 0, .int .i64 0, .int .i64 0]) (oW.drewN (nq + m7))
          have zl := Own.celLt (T := 89) (vs := [.int .i64 0, .int .i64 0, .int .i64 0]) (oW.drewN (nq + m7))
          have y5 := Own.setCell (T := 89) (vs := [.int .i64 0, .int .i64 0, .int .i64 0]) (oW.drewN (nq + m7)) 0 (.int .i64 (kn : Int))
          have y6 := Own.setCell (T := 89) (vs := [.int .i64 (kn : Int), .int .i64 0, .int .i64 0]) y5 1 (.int .i64 J)
          have y7 := Own.setCell (T := 89) (vs := [.int .i64 (kn : Int), .int .i64 J, .int .i64 0]) y6 2 (.int .i64 3)
          have KZ : Calm w _ := qcalm_set (x := ⟨w.heap.size, 2, none⟩) (v := .int .i64 3) (qcalm_set (x := ⟨w.heap.size, 1, none⟩) (v := .int .i64 J) (qcalm_set (x := ⟨w.heap.size, 0, none⟩) (v := .int .i64 (kn : Int)) (kW.dn (nq + m7))))
          have HDN := Lib.hid (HFIN.out ⟨(kn : Int), J, 3⟩ _ (by rw [HCH.out, if_neg (by simp [HW.out]), HJE.out, if_pos HJ.out, if_neg HW.out]) y7.drop KZ)
          go_wp2
          refine bodyPost_ret (v := .agg #[.int .i64 (kn : Int), .int .i64 J, .int .i64 3]) ?_ rfl ?_
          · exact chRow4 (p := w.heap.size) rfl rfl y7
          · exact HDN.out
        · obtain rfl : nl = 0 := by omega
          have HJ := Lib.hid (fun e => hp (HPC.out.1 e))
          clear hp
          by_cases hp : 0 < na
          · have hlq : decide (0 < (na : Int)) = true := decide_eq_true (by omega)
            have hsel := HSX.out _ _ hp (oQ.re [5, 7])
            have d6 := kq_ptr 6 (oQ.up 1) (.inr (.inr (.inr ⟨rfl, rfl⟩)))
            have HJ2 := Lib.hid (HPX.out.2 hp)
            have HAE := Lib.hid (show (!A.isEmpty) = true by have := HNA.out; cases A with | nil => rw [← this] at hp; simp at hp | cons _ _ => rfl)
            obtain ⟨J, hJ⟩ : ∃ J, leastF A (eligTg s.X.el s.X.tm A s.X.tg) = J := ⟨_, rfl⟩
            rw [hJ] at hsel HJ2
            have HJE := Lib.hid hJ
            clear hJ
            go_wp2_with fail
            refine hsel.mono ?_
            rintro e7 w7 ⟨rfl, m7, rfl⟩
            clear hsel d6
            have z0 := Own.cell (T := 89) (vs := [.int .i64 0, .int .i64 0, .int .i64 0]) (oW.drewN (nq + m7)) 0
            have z1 := Own.cell (T := 89) (vs := [.int .i64 0, .int .i64 0, .int .i64 0]) (oW.drewN (nq + m7)) 1
            have z2 := Own.cell (T := 89) (vs := [.int .i64 0, .int .i64 0, .int .i64 0]) (oW.drewN (nq + m7)) 2
            have zf := Own.frozen (T := 89) (vs := [.int .i64 0, .int .i64 0, .int .i64 0]) (oW.drewN (nq + m7))
            have zl := Own.celLt (T := 89) (vs := [.int .i64 0, .int .i64 0, .int .i64 0]) (oW.drewN (nq + m7))
            have y5 := Own.setCell (T := 89) (vs := [.int .i64 0, .int .i64 0, .int .i64 0]) (oW.drewN (nq + m7)) 0 (.int .i64 (kn : Int))
            have y6 := Own.setCell (T := 89) (vs := [.int .i64 (kn : Int), .int .i64 0, .int .i64 0]) y5 1 (.int .i64 J)
            have y7 := Own.setCell (T := 89) (vs := [.int .i64 (kn : Int), .int .i64 J, .int .i64 0]) y6 2 (.int .i64 4)
            have KZ : Calm w _ := qcalm_set (x := ⟨w.heap.size, 2, none⟩) (v := .int .i64 4) (qcalm_set (x := ⟨w.heap.size, 1, none⟩) (v := .int .i64 J) (qcalm_set (x := ⟨w.heap.size, 0, none⟩) (v := .int .i64 (kn : Int)) (kW.dn (nq + m7))))
            have HDN := Lib.hid (HFIN.out ⟨(kn : Int), J, 4⟩ _ (by rw [HCH.out, if_neg (by simp [HW.out]), if_neg HJ.out, if_neg HW.out, if_pos HAE.out, HJE.out, if_pos HJ2.out]) y7.drop KZ)
            go_wp2
            refine bodyPost_ret (v := .agg #[.int .i64 (kn : Int), .int .i64 J, .int .i64 4]) ?_ rfl ?_
            · exact chRow4 (p := w.heap.size) rfl rfl y7
            · exact HDN.out
          · obtain rfl : na = 0 := by omega
            have HAE := Lib.hid (show ¬ (!A.isEmpty) = true by have := HNA.out; cases A with | nil => simp | cons _ _ => simp at this)
            clear hp
            have z0 := Own.cell (T := 89) (vs := [.int .i64 0, .int .i64 0, .int .i64 0]) oQ 0
            have z1 := Own.cell (T := 89) (vs := [.int .i64 0, .int .i64 0, .int .i64 0]) oQ 1
            have z2 := Own.cell (T := 89) (vs := [.int .i64 0, .int .i64 0, .int .i64 0]) oQ 2
            have zf := Own.frozen (T := 89) (vs := [.int .i64 0, .int .i64 0, .int .i64 0]) oQ
            have zl := Own.celLt (T := 89) (vs := [.int .i64 0, .int .i64 0, .int .i64 0]) oQ
            have y5 := Own.setCell (T := 89) (vs := [.int .i64 0, .int .i64 0, .int .i64 0]) oQ 0 (.int .i64 (-1))
            have y6 := Own.setCell (T := 89) (vs := [.int .i64 (-1), .int .i64 0, .int .i64 0]) y5 1 (.int .i64 (-1))
            have y7 := Own.setCell (T := 89) (vs := [.int .i64 (-1), .int .i64 (-1), .int .i64 0]) y6 2 (.int .i64 6)
            have KZ : Calm w _ := qcalm_set (x := ⟨w.heap.size, 2, none⟩) (v := .int .i64 6) (qcalm_set (x := ⟨w.heap.size, 1, none⟩) (v := .int .i64 (-1)) (qcalm_set (x := ⟨w.heap.size, 0, none⟩) (v := .int .i64 (-1)) (kQ)))
            have HDN := Lib.hid (HFIN.out ⟨(-1), (-1), 6⟩ _ (by rw [HCH.out, if_neg (by simp [HW.out]), if_neg HJ.out, if_neg HW.out, if_neg HAE.out]; rfl) y7.drop KZ)
            go_wp2
            refine bodyPost_ret (v := .agg #[.int .i64 (-1), .int .i64 (-1), .int .i64 6]) ?_ rfl ?_
            · exact chRow4 (p := w.heap.size) rfl rfl y7
            · exact HDN.out
end
end Go.Proofs.YtjpahfkchhnpoaaGreat

/- The reference of cifq: what a slot does to its parts, plain. -/

namespace Go.Proofs.YtjpahfkchhnpoaaGreat
open Go.RowKit
open SP
section
variable {w w' : World} {R : List SP} {N i m : Nat} {s : Cq} {g : KqG} {H : List Head}

/-- A service of the reference that succeeds. -/
theorem serveO_ref {o : Ord} {tags : List Int} (h : CsRel o.el o.tg o.tm tags o.tm) (reb f len : Int) (h0 : (servO reb o f len).1 = 0) : ∃ tags', CsRel (servO reb o f len).2.el (servO reb o f len).2.tg (servO reb o f len).2.tm tags' (servO reb o f len).2.tm ∧
    ∀ (S : SP) (b : Nat) (w : World) (R : List SP), Own w (RefR S b reb o.el tags o.tm :: S :: R) → Calls Tryz.prog 75 #[.pointer (some ⟨b, 0, none⟩), .int .i64 f, .int .i64 len] w
      (Ret (.int .i64 0) (RefR S b reb (servO reb o f len).2.el tags' (servO reb o f len).2.tm :: S :: R) w) := by
  obtain ⟨el, tg, tm⟩ := o
  dsimp only at h ⊢
  have hE : servE el tg f len = 0 := by
    by_cases e : servE el tg f len = 0
    · exact e
    · unfold servO at h0
      rw [if_pos (by exact e)] at h0
      exact absurd h0 e
  have hO : servO reb ⟨el, tg, tm⟩ f len = if servBy el tg tm f len < reb then (0, ⟨el, servTg el tg f len, servTm tg tm f⟩) else
      (0, ⟨el, lower (servBy el tg tm f len) (servTg el tg f len), servTm tg tm f - servBy el tg tm f len⟩) := by
    unfold servO
    rw [if_neg (by rw [hE]; simp)]
  rw [hO]
  clear hO h0
  have hk := h.keyOk
  have hn := h.elen
  have hkeys := h.keys
  rcases atF_some (f := f) el 0 with ⟨h1, h2⟩ | ⟨i, wt, h1, h2, h3⟩
  · have hm : mget el f = none := atF_neg.1 (by rw [h2]; omega)
    have e1 : servE el tg f len = 6 := by unfold servE; rw [hm]; rfl
    rw [e1] at hE; omega
  · rw [Nat.zero_add] at h2
    have hmem : (f, wt) ∈ el := List.mem_of_getElem? h1
    have hfr := hkeys.2 _ hmem
    dsimp only at hfr
    have hte : tget el f = wt := by unfold tget; rw [h3]; rfl
    have hs : (mget el f).isSome = true := by rw [h3]; rfl
    have eE : servE el tg f len = (servFin el tg f len).2 := if_pos hs
    have eF : servFin el tg f len = finF (tget tg f) len wt := by unfold servFin; rw [hte]
    obtain ⟨f0, rfl⟩ : ∃ f0 : Nat, f = (f0 : Int) := ⟨f.toNat, by omega⟩
    have hl := h.len
    obtain ⟨t, ht⟩ : ∃ t, tags[f0]? = some t := ⟨_, List.getElem?_eq_getElem (by omega)⟩
    have htg : tget tg (f0 : Int) = t := by rw [h.tag, if_pos ⟨hfr.1, hfr.2.1⟩, Int.toNat_natCast, List.getD_eq_getElem?_getD, ht]; rfl
    have htr := h.tval _ (List.mem_of_getElem? ht)
    rw [htg] at eF
    by_cases hb : badLW len wt
    · have e2 : finF t len wt = (0, 1) := by unfold finF; rw [if_pos (.inl hb)]
      rw [eE, eF, e2] at hE
      exact absurd hE (by decide)
    · have hno : ¬ (badLW len wt ∨ t < 0 ∨ 1099511627776 < t) := by rintro (h | h | h); exact hb h; omega; omega
      by_cases hr : 1099511627776 < t + cst len wt
      · have e2 : finF t len wt = (0, 2) := by unfold finF; rw [if_neg hno, if_pos hr]
        rw [eE, eF, e2] at hE
        exact absurd hE (by decide)
      · have e2 : finF t len wt = (t + cst len wt, 0) := by unfold finF; rw [if_neg hno, if_neg hr]
        have hcr : 45045 ≤ cst len wt := by unfold badLW at hb; exact (cst_range (by omega) (by omega) (by omega) (by omega)).1
        have eTg : servTg el tg (f0 : Int) len = mput tg (f0 : Int) (t + cst len wt) := by unfold servTg; rw [eF, e2]
        have eTm : servTm tg tm (f0 : Int) = max tm t := by unfold servTm; rw [htg]
        have htm := h.tm
        have h1r : CsRel el (mput tg (f0 : Int) (t + cst len wt)) (max tm t) (tags.set f0 (t + cst len wt)) (max tm t) := by
          refine ⟨h.uniq.mput _ _, mput_range h.vals (by omega), h.el, by rw [List.length_set]; exact hl, fun g => ?_, rfl, by omega⟩
          rw [tget_mput, h.tag g]
          by_cases hg : 0 ≤ g ∧ g < 32
          · rw [if_pos hg, if_pos hg, getD_set (by omega)]
            by_cases e : g = (f0 : Int)
            · rw [if_pos e, if_pos (by omega)]
            · rw [if_neg e, if_neg (by omega)]
          · rw [if_neg hg, if_neg hg, if_neg (by omega)]
        obtain ⟨p, l', hel⟩ : ∃ p l', el = p :: l' := by
          cases el with
          | nil => simp at hmem
          | cons p l' => exact ⟨p, l', rfl⟩
        have hsm : selL (tags.set f0 (t + cst len wt)) l' p.1 ∈ el.map (·.1) := by
          rw [hel]
          rcases selL_mem (tags.set f0 (t + cst len wt)) l' p.1 with h | h
          · rw [h]; simp
          · simp only [List.map_cons, List.mem_cons]; exact .inr h
        obtain ⟨q, hq, hqe⟩ := List.mem_map.1 hsm
        have hqr := hkeys.2 q hq
        have hle2 : leastF el (mput tg (f0 : Int) (t + cst len wt)) = selL (tags.set f0 (t + cst len wt)) l' p.1 := h1r.least_cons hel
        obtain ⟨k, hkk⟩ : ∃ k : Nat, selL (tags.set f0 (t + cst len wt)) l' p.1 = (k : Int) := ⟨(selL (tags.set f0 (t + cst len wt)) l' p.1).toNat, by omega⟩
        rw [hkk] at hle2 hqe
        have hsel : refSel (tags.set f0 (t + cst len wt)) el = .tuple #[.int .i64 (k : Int), .int .i64 0] := by rw [hel]; show Value.tuple #[.int .i64 (selL _ l' p.1), .int .i64 0] = _; rw [hkk]
        obtain ⟨tk, htk⟩ : ∃ tk, (tags.set f0 (t + cst len wt))[k]? = some tk := ⟨_, List.getElem?_eq_getElem (by rw [List.length_set]; omega)⟩
        have htkg : tget (mput tg (f0 : Int) (t + cst len wt)) (k : Int) = tk := by rw [h1r.tag, if_pos (by omega), Int.toNat_natCast, List.getD_eq_getElem?_getD, htk]; rfl
        have htkr := h1r.tval _ (List.mem_of_getElem? htk)
        have eBy : servBy el tg tm (f0 : Int) len = min (max tm t) tk := by unfold servBy; rw [eTm, eTg, hle2, htkg]
        have eBy2 : min tk (max tm t) = min (max tm t) tk := by omega
        have hby0 : 0 ≤ min (max tm t) tk := by omega
        have hrefs := fun (S : SP) (b : Nat) (w : World) (R : List SP) (o : Own w (RefR S b reb el tags tm :: S :: R)) =>
          refServe_ok f0 len (by omega) (fun p hp => by have := hkeys.2 p hp; omega) h1 h2 hb ht htr h.tval htm hr hsel htk o
        rw [eBy, eTg, eTm]
        by_cases hlow : min (max tm t) tk < reb
        · rw [if_pos hlow]
          refine ⟨_, h1r, fun S b w R o => ?_⟩
          refine (hrefs S b w R o).mono fun e w' hp => ?_
          unfold RefServ2 at hp
          rw [eBy2, if_pos hlow] at hp
          exact hp
        · rw [if_neg hlow]
          refine ⟨(tags.set f0 (t + cst len wt)).map (fun t' => max (t' - min (max tm t) tk) 0), ⟨h1r.uniq.lower _, lower_vals hby0 h1r.vals, h.el, by rw [List.length_map]; exact h1r.len, tags_map h1r.tag h1r.len hby0, rfl, by dsimp only; omega⟩, fun S b w R o => ?_⟩
          refine (hrefs S b w R o).mono fun e w' hp => ?_
          unfold RefServ2 at hp
          rw [eBy2, if_neg hlow] at hp
          exact hp
/-- The reference's counts behind a slot. -/
def bumpR (num den : Int) (s : Cq) (c : Chc) (len : Int) (cs : List (Int × Int)) : List (Int × Int) :=
  if countC num den s c = true then cs.set c.ch.toNat ((cntO s.n c.ch).1 + len, if c.why = 1 then (cntO s.n c.ch).2 + len else (cntO s.n c.ch).2) else cs
theorem bumpR_get {num den : Int} {c : Chc} {len : Int} {cs : List (Int × Int)} (hcl : cs.length = 32) (hcn : ∀ f : Nat, f < 32 → cs.getD f (0, 0) = cntO s.n (f : Int)) (hc : 0 ≤ c.ch ∧ c.ch < 32) (hw : countC num den s c = true → (c.why = 1 ↔ c.ch = c.sv)) :
    (bumpR num den s c len cs).length = 32 ∧ ∀ f : Nat, f < 32 → (bumpR num den s c len cs).getD f (0, 0) = cntO (if countC num den s c = true then bumpC s.n c len else s.n) (f : Int) := by
  unfold bumpR
  by_cases hcc : countC num den s c = true
  · rw [if_pos hcc, if_pos hcc]
    refine ⟨by rw [List.length_set]; exact hcl, fun f hf => ?_⟩
    unfold bumpC
    have hm : ∀ v, cntO (mput s.n c.ch v) (f : Int) = if (f : Int) = c.ch then v else cntO s.n (f : Int) := fun v => by
      unfold cntO
      rw [mget_mput]
      split <;> rfl
    rw [hm, List.getD_eq_getElem?_getD, List.getElem?_set]
    by_cases e : c.ch.toNat = f
    · rw [if_pos e, if_pos (by rw [hcl]; omega), if_pos (show (f : Int) = c.ch by omega)]
      have := hw hcc
      by_cases e1 : c.why = 1
      · rw [if_pos e1, if_pos (this.1 e1)]; rfl
      · rw [if_neg e1, if_neg (fun x => e1 (this.2 x))]; rfl
    · rw [if_neg e, if_neg (show ¬ (f : Int) = c.ch by omega), ← List.getD_eq_getElem?_getD]
      exact hcn f hf
  · rw [if_neg hcc, if_neg hcc]
    exact ⟨hcl, hcn⟩
end
end Go.Proofs.YtjpahfkchhnpoaaGreat
