/- Texts that the law rests on, put together by a program. -/
import Derived.Test.YtjpahfkchhnpoaaGreatCifqScriptJ
/- The reference of cifq: a slot, walked. -/
namespace Go.Proofs.YtjpahfkchhnpoaaGreat
open Go.RowKit
open SP
section
variable {w w' : World} {R : List SP} {b rp lp cp xp N M i m : Nat} {num den reb : Int} {P S Sp : SP} {s : Cq} {g : KqG} {H : List Head}
attribute [local go_sem ↓] kqLoad_eq kqStore_eq
theorem KqRel.next (h : KqRel M s g) : KqRel (M + 1) s g := ⟨h.r.next, h.c, h.x, h.cl, h.cn⟩
/-- `*s = *t` on the blocks. -/
theorem kq_move {q : Nat} {cs : List (Int × Int)} {rp2 lp2 cp2 xp2 : Nat} {cs2 : List (Int × Int)} (h1 : cs.length = 32) (h2 : cs2.length = 32) (o : Own w (KqC q num den reb rp lp cp xp cs :: KqC b num den reb rp2 lp2 cp2 xp2 cs2 :: R)) :
    ∃ CS, (kqLoad (.pointer (some ⟨q, 0, none⟩))).run Tryz.prog w = .ok (.agg CS) w ∧ ∃ w', (kqStore (.pointer (some ⟨b, 0, none⟩)) (.agg CS)).run Tryz.prog w = .ok () w' ∧ Own w' (KqC b num den reb rp lp cp xp cs :: R) ∧ Calm w w' := by
  obtain ⟨CS, hCS⟩ : ∃ CS, kqCells num den reb rp lp cp xp cs = CS := ⟨_, rfl⟩
  have hlen : CS.length = 71 := by rw [← hCS]; exact kqCells_len h1
  have hone : CS.toArray.all (·.oneCell') = true := all_oneCell_toArray (by rw [← hCS]; exact kqCells_one)
  have o1 := o
  unfold KqC at o1
  rw [hCS] at o1
  have rg := o1.rangeAt
  have hld := run_loadAt_mid (P := Tryz.prog) w q 0 54 CS _ rg Tryz.underlying54 rfl (by rw [hlen]; kernel_rfl)
  have hl2 : (kqCells num den reb rp2 lp2 cp2 xp2 cs2).length = 71 := kqCells_len h2
  have hth := (o1.up 1).there (n := 71) (by rw [hl2])
  have hst := run_storeAt_mid (P := Tryz.prog) w b 0 54 CS.toArray (by simpa [hlen] using hth) (by rw [List.size_toArray, hlen]; kernel_rfl) hone
  have o2 := (o1.up 1).setCells (vs := CS) (by rw [hl2, hlen])
  refine ⟨CS.toArray, hld, w.setCells b 0 CS, by unfold kqStore; simpa using hst, ?_, Calm.setCells b CS 0 w⟩
  have o3 := o2.re [1] 1
  rw [← hCS] at o3 ⊢
  exact o3
/-- The service of a slot, on the reference's orders. -/
def ServRef (reb : Int) (C : Ord) (tC : List Int) (C2 : Ord) (tC2 : List Int) (f len : Int) : Prop :=
  ∀ (S : SP) (b : Nat) (w : World) (R : List SP), Own w (RefR S b reb C.el tC C.tm :: S :: R) → Calls Tryz.prog 75 #[.pointer (some ⟨b, 0, none⟩), .int .i64 f, .int .i64 len] w
      (Ret (.int .i64 0) (RefR S b reb C2.el tC2 C2.tm :: S :: R) w)
theorem servC_ref {reb : Int} {C X C2 X2 : Ord} {tC tX : List Int} {k j why len : Int} (hC : CsRel C.el C.tg C.tm tC C.tm) (hX : CsRel X.el X.tg X.tm tX X.tm) (h0 : servC reb C X ⟨k, j, why⟩ len = (0, C2, X2)) (hw : why = 1 ∨ (why = 2 ∨ why = 3) ∨ why = 4) :
    ∃ tC2 tX2, CsRel C2.el C2.tg C2.tm tC2 C2.tm ∧ CsRel X2.el X2.tg X2.tm tX2 X2.tm ∧ ((why = 2 ∨ why = 3) ∧ ServRef reb C tC C2 tC2 j len ∧ X2 = X ∧ tX2 = tX ∨ why = 4 ∧ ServRef reb X tX X2 tX2 j len ∧ C2 = C ∧ tC2 = tC ∨ why = 1 ∧ C2 = C ∧ tC2 = tC ∧ X2 = X ∧ tX2 = tX) := by
  unfold servC at h0
  dsimp only at h0
  rcases hw with hw | hw | hw
  · rw [if_neg (by omega), if_neg (by omega)] at h0
    cases h0
    exact ⟨tC, tX, hC, hX, .inr (.inr ⟨hw, rfl, rfl, rfl, rfl⟩)⟩
  · rw [if_pos hw] at h0
    have e1 : (servO reb C j len).1 = 0 := congrArg (·.1) h0
    have e2 : (servO reb C j len).2 = C2 := congrArg (·.2.1) h0
    have e3 : X = X2 := congrArg (·.2.2) h0
    obtain ⟨t2, h2, h3⟩ := serveO_ref hC reb j len e1
    rw [e2] at h2
    simp only [e2] at h3
    subst e3
    exact ⟨t2, tX, h2, hX, .inl ⟨hw, h3, rfl, rfl⟩⟩
  · rw [if_neg (by omega), if_pos hw] at h0
    have e1 : (servO reb X j len).1 = 0 := congrArg (·.1) h0
    have e2 : (servO reb X j len).2 = X2 := congrArg (·.2.2) h0
    have e3 : C = C2 := congrArg (·.2.1) h0
    obtain ⟨t2, h2, h3⟩ := serveO_ref hX reb j len e1
    rw [e2] at h2
    simp only [e2] at h3
    subst e3
    exact ⟨tC, t2, hC, h2, .inr (.inl ⟨hw, h3, rfl, rfl⟩)⟩
set_option maxHeartbeats 6400000 in
set_option maxRecDepth 100000 in
theorem kqStep_spec {nu de : Nat} (hnu : nu < 4194304) (hde : de < 4194304) (hm : m ≤ 1000) (hM : M ≤ 1000) (hN : N ≤ 1000000) (hi : i ≤ 299) {a : Option Addr} {n c : Nat} (h : KqRel M s g) (hI : CqInv i m N s) (h1 : HeadsAt Sp a H) (hn : n = H.length) (hf : fitsH s.R.L H = true) (hne : H ≠ [])
    (o : Own w (KqT P S b (nu : Int) (de : Int) reb s g :: P :: S :: Sp :: R)) :
    Calls Tryz.prog 33 #[.pointer (some ⟨b, 0, none⟩), .slice a n c] w
      (fun e w' => ∃ P' S' g', KqRel (M + 1) (stepC (nu : Int) (de : Int) reb s H).2.2 g' ∧ Ret (.tuple #[chV (stepC (nu : Int) (de : Int) reb s H).1, .int .i64 (stepC (nu : Int) (de : Int) reb s H).2.1]) (KqT P' S' b (nu : Int) (de : Int) reb (stepC (nu : Int) (de : Int) reb s H).2.2 g' :: P' :: S' :: Sp :: R) w e w') := by
  obtain ⟨f1, f2⟩ := fits_facts hf
  have hLne : s.R.L ≠ [] := fun e => by rw [e] at f1; simp at f1; exact hne f1
  have hn0 : ¬ n = 0 := fun h => hne (List.eq_nil_of_length_eq_zero (by omega))
  have hlen := h.r.ok.ok.len
  have hnL : n = s.R.L.length := by have := congrArg List.length f1; simp only [List.length_map] at this; omega
  obtain ⟨rp, lp, cp, xp, o1⟩ := KqT.iff.1 o
  have oA := o1.alloc (.cells #[.int .i64 0, .int .i64 0, .int .i64 0] 89)
  have c3 := kq_ptr 3 o1 (.inl ⟨rfl, rfl⟩)
  have bl := o1.celLt
  have hhd := headsOK_spec (c := c) h1 hn (by omega) (oA.re [2, 6, 8])
  rw [hf] at hhd
  have hn1 : ((n : Int) == 0) = false := by simpa using (by omega : ¬ (n : Int) = 0)
  obtain ⟨C, hC⟩ : ∃ C, eligO s.C (lagH s.D H) = C := ⟨_, rfl⟩
  obtain ⟨X, hX⟩ : ∃ X, eligO s.X (allH s.D H) = X := ⟨_, rfl⟩
  obtain ⟨cc, hcc⟩ : ∃ cc, chooseC (nu : Int) (de : Int) { s with C := C, X := X } H (!(allH s.D H).isEmpty) = cc := ⟨_, rfl⟩
  have hcw := count_way (reb := reb) hI hi hN hf hne hC hX hcc
  have hstp := hI.step hi hN (nu : Int) (de : Int) reb hf hne hC hX hcc
  obtain ⟨RS, hRS⟩ : ∃ RS, stepC (nu : Int) (de : Int) reb s H = RS := ⟨_, rfl⟩
  rw [hRS] at hstp ⊢
  have HN := Lib.hid hn
  have HNL := Lib.hid hnL
  have HF1 := Lib.hid f1
  have HW := Lib.hid hcw
  have HST := Lib.hid hstp
  have HC := Lib.hid hC
  have HX := Lib.hid hX
  have HCC := Lib.hid hcc
  clear hRS hn hnL f1 f2 hcw hstp hC hX hcc hf o
  go_enter Tryz.func33, Tryz.ntmps33
  go_wp2_with fail
  refine hhd.mono ?_
  rintro e1 w1 ⟨rfl, o2, k2⟩
  clear hhd c3 bl o1 oA
  have K2 : Calm w w1 := (qcalm_alloc (Calm.refl w)).trans k2
  have o3 : Own _ (KqT P S b (nu : Int) (de : Int) reb s g :: _) := KqT.iff.2 ⟨rp, lp, cp, xp, o2.re [4, 0, 5, 6, 7]⟩
  have hcp := copied_spec h (o3.re [0, 1, 4])
  go_wp2_with fail
  refine hcp.mono ?_
  rintro e3 w3 ⟨q, rfl, o4, k4⟩
  obtain ⟨rp1, lp1, cp1, xp1, o5⟩ := KqT.iff.1 (o4.up 1)
  have hdc := decide_spec (b := q) (c := c) hnu hde hm h hI HF1.out h1 HN.out hLne ((o5.re [1, 2, 3, 4] 4).re [1, 2, 3, 4])
  clear hcp o2 o3 o4 o5
  go_wp2_with fail
  refine hdc.mono ?_
  rintro e4 w4 ⟨S2, tC, tX, hKR, rfl, o6, k6⟩
  clear hdc
  rw [HC.out, HX.out] at hKR o6
  have e0 : chooseC (nu : Int) (de : Int) ⟨s.R, s.D, eligO s.C (lagH s.D H), eligO s.X (allH s.D H), s.n⟩ H (!(allH s.D H).isEmpty) = cc := by rw [HC.out, HX.out]; exact HCC.out
  rw [e0]
  clear e0
  have K6 := K2.trans (k4.trans k6)
  clear K2 k2 k4 k6
  obtain ⟨oCi, oXi, eC, eX, hst0⟩ := HST.out
  rcases hst0 with ⟨hcc, hst, hI2⟩ | ⟨j, why, len, hcc, hj0, hlen, hjH, l1, l2, hway, hst, q0, qs, qn, hI2, -⟩
  · subst hcc
    subst hst
    have oB := o6.alloc (.cells #[.int .i64 (-1), .int .i64 (-1), .int .i64 6] 89)
    obtain ⟨r3, l3, c3, x3, o7⟩ := KqT.iff.1 (oB.up 1)
    obtain ⟨CS, hld, w5, hsv, o8, k8⟩ := kq_move hKR.cl h.cl (o7.re [0, 9])
    have u0 := Own.cell (T := 89) (vs := [.int .i64 (-1), .int .i64 (-1), .int .i64 6]) (o8.up 5) 0
    have u1 := Own.cell (T := 89) (vs := [.int .i64 (-1), .int .i64 (-1), .int .i64 6]) (o8.up 5) 1
    have u2 := Own.cell (T := 89) (vs := [.int .i64 (-1), .int .i64 (-1), .int .i64 6]) (o8.up 5) 2
    have z0 := Own.cell (T := 89) (vs := [.int .i64 0, .int .i64 0, .int .i64 0]) (o8.up 9) 0
    have z1 := Own.cell (T := 89) (vs := [.int .i64 0, .int .i64 0, .int .i64 0]) (o8.up 9) 1
    have z2 := Own.cell (T := 89) (vs := [.int .i64 0, .int .i64 0, .int .i64 0]) (o8.up 9) 2
    have zf := Own.frozen (T := 89) (vs := [.int .i64 0, .int .i64 0, .int .i64 0]) (o8.up 9)
    have zl := Own.celLt (T := 89) (vs := [.int .i64 0, .int .i64 0, .int .i64 0]) (o8.up 9)
    have y5 := Own.setCell (T := 89) (vs := [.int .i64 0, .int .i64 0, .int .i64 0]) (o8.up 9) 0 (.int .i64 (-1))
    have y6 := Own.setCell (T := 89) (vs := [.int .i64 (-1), .int .i64 0, .int .i64 0]) y5 1 (.int .i64 (-1))
    have y7 := Own.setCell (T := 89) (vs := [.int .i64 (-1), .int .i64 (-1), .int .i64 0]) y6 2 (.int .i64 6)
    have qb := (o7.up 0).celLt
    rw [show chV chIdle = .agg #[.int .i64 (-1), .int .i64 (-1), .int .i64 6] from rfl]
    clear o7 oB o6 o8
    go_wp2
    refine bodyPost_ret (v := .tuple #[chV ⟨-1, -1, 6⟩, .int .i64 0]) ?_ rfl ?_
    · exact chRow2 (p := w.heap.size) rfl rfl rfl y7
    · exact ⟨P, S2, _, hKR.next, rfl, KqT.iff.2 ⟨r3, l3, c3, x3, y7.drop.re [5] 1⟩, qcalm_set (qcalm_set (qcalm_set ((qcalm_alloc K6).trans k8)))⟩
  · subst hst
    have hkr := h.r.ok.ok.rng _ (lst_mem hLne)
    obtain ⟨kk, hkk⟩ : ∃ kk, (lst s.R.L).f = kk := ⟨_, rfl⟩
    rw [hkk] at hkr hcc hway q0 qn
    obtain ⟨kn, rfl⟩ : ∃ kn : Nat, kk = (kn : Int) := ⟨kk.toNat, by omega⟩
    obtain ⟨jn, rfl⟩ : ∃ jn : Nat, j = (jn : Int) := ⟨j.toNat, by omega⟩
    have hk32 : kn < 32 := by omega
    subst hcc
    have oB := o6.alloc (.cells #[.int .i64 (kn : Int), .int .i64 (jn : Int), .int .i64 why] 89)
    obtain ⟨r3, l3, c3, x3, o7⟩ := KqT.iff.1 (oB.up 1)
    obtain ⟨gg, i0, rfl, hi0, hix, hl0⟩ := headsAt_val h1 (o7.up 8) hjH
    rw [hlen] at hl0
    have hL9 : s.R.L.length ≤ 1000 := by omega
    have hidx := index_spec (jn : Int) hL9 (o7.drew.re [1, 6])
    rw [idxT_idxH 0 s.R.L H HF1.out, hix] at hidx
    have q3 := kq_ptr 3 o7 (.inl ⟨rfl, rfl⟩)
    have u1 := Own.cell (T := 89) (vs := [.int .i64 (kn : Int), .int .i64 (jn : Int), .int .i64 why]) (o7.up 5) 1
    have qb := o7.celLt
    have hin : i0 < n := by have := HN.out; omega
    rw [show chV ⟨(kn : Int), (jn : Int), why⟩ = .agg #[.int .i64 (kn : Int), .int .i64 (jn : Int), .int .i64 why] from rfl]
    have K7 : Calm w (w4.alloc (.cells #[.int .i64 (kn : Int), .int .i64 (jn : Int), .int .i64 why] 89)) := qcalm_alloc K6
    clear oB o6
    go_upto_region 8 with fail
    go_region_held3 (fun w' => w'.cell? ⟨q, 3, none⟩ = some (.pointer (some ⟨r3, 0, none⟩)) ∧ w'.cell? ⟨w4.heap.size, 1, none⟩ = some (.int .i64 (jn : Int)) ∧ w'.cell? ⟨gg, i0 * 3 + 1, none⟩ = some (.int .i64 len)) (go_keep) (first | (go_at_call 70; (with_reducible refine hidx.mono ?_); rintro e5 w5 ⟨rfl, rfl⟩; have n3 := kq_ptr 3 o7.drew (.inl ⟨rfl, rfl⟩); have n1 := Own.cell (T := 89) (vs := [.int .i64 (kn : Int), .int .i64 (jn : Int), .int .i64 why]) (o7.drew.up 5) 1))
    have o8 := o7.drew
    have K8 := qcalm_drew K7
    obtain ⟨w5, hw5⟩ : ∃ w5, (w4.alloc (.cells #[.int .i64 (kn : Int), .int .i64 (jn : Int), .int .i64 why] 89)).drew = w5 := ⟨_, rfl⟩
    obtain ⟨p2, hp2⟩ : ∃ p2, w4.heap.size = p2 := ⟨_, rfl⟩
    rw [hw5] at o8 K8 ⊢
    rw [hp2] at o8 ⊢
    clear hw5 hp2 o7 hidx q3 u1 K7 K6 hl0 qb
    have q4 := kq_ptr 4 o8 (.inr (.inl ⟨rfl, rfl⟩))
    have u0 := Own.cell (T := 89) (vs := [.int .i64 (kn : Int), .int .i64 (jn : Int), .int .i64 why]) (o8.up 5) 0
    have hD9 : s.D.length ≤ 1000 := by have := hI.len; omega
    have hlg := ledLag_spec (w := w5.drew) (kn : Int) hD9 (o8.drew.re [2, 6])
    obtain ⟨z, hz⟩ := lagV_eq s.D (kn : Int)
    rw [hz] at hlg
    obtain ⟨lg, hlgE⟩ : ∃ lg, lagO s.D (kn : Int) = lg := ⟨_, rfl⟩
    rw [hlgE] at hlg
    have HLG := Lib.hid hlgE
    clear hz hlgE
    go_upto_region 9 with fail
    go_region_held3 (fun w' => w'.cell? ⟨q, 4, none⟩ = some (.pointer (some ⟨l3, 0, none⟩)) ∧ w'.cell? ⟨p2, 0, none⟩ = some (.int .i64 (kn : Int))) (go_keep) (first | (go_at_call 71; (with_reducible refine hlg.mono ?_); rintro e6 w6 ⟨rfl, rfl⟩; have n3 := kq_ptr 4 o8.drew (.inr (.inl ⟨rfl, rfl⟩)); have n1 := Own.cell (T := 89) (vs := [.int .i64 (kn : Int), .int .i64 (jn : Int), .int .i64 why]) (o8.drew.up 5) 0))
    have o9 := o8.drew
    have K9 := qcalm_drew K8
    obtain ⟨w6, hw6⟩ : ∃ w6, w5.drew = w6 := ⟨_, rfl⟩
    rw [hw6] at o9 K9 ⊢
    obtain ⟨cr, cl, hcnt, hcr, hcl⟩ : ∃ cr cl : Nat, cntO s.n (kn : Int) = ((cr : Int), (cl : Int)) ∧ cr < 4294967296 ∧ cl < 4294967296 := by
      have hc := hI.cnt (kn : Int)
      have : (m : Int) * 4096 ≤ 4096000 := by omega
      exact ⟨(cntO s.n (kn : Int)).1.toNat, (cntO s.n (kn : Int)).2.toNat, Prod.ext (by dsimp only; omega) (by dsimp only; omega), by omega, by omega⟩
    have hgc : g.cs[kn]? = some ((cr : Int), (cl : Int)) := by
      have h1 := h.cn kn hk32
      obtain ⟨y, hy⟩ : ∃ y, g.cs[kn]? = some y := ⟨_, List.getElem?_eq_getElem (by rw [h.cl]; exact hk32)⟩
      rw [List.getD_eq_getElem?_getD, hy, hcnt] at h1
      rw [hy]; exact congrArg some h1
    have hq1 : (kn : Int) < 32 := by omega
    have hq0 : (0 : Int) ≤ (kn : Int) := by omega
    have HCN := Lib.hid hcnt
    have HGC := Lib.hid hgc
    clear hw6 o8 hlg u0 q4 K8 hcnt hgc
    go_upto_block 0 with fail
    go_cut [11] (fun v wc => v = undef ∧ Own wc (KqC q (nu : Int) (de : Int) reb r3 l3 c3 x3 (bumpR (nu : Int) (de : Int) s ⟨(kn : Int), (jn : Int), why⟩ len g.cs) :: RefT P r3 reb s.R.L g.O s.R.tm s.R.aw :: LedR P l3 s.D :: RefR S2 c3 reb C.el tC C.tm :: RefR S2 x3 reb X.el tX X.tm :: cel p2 89 [.int .i64 (kn : Int), .int .i64 (jn : Int), .int .i64 why] :: P :: S2 :: Sp :: KqC b (nu : Int) (de : Int) reb rp1 lp1 cp1 xp1 g.cs :: cel w.heap.size 89 [.int .i64 0, .int .i64 0, .int .i64 0] :: R) ∧ Calm w wc)
    case first =>
      have u0 := Own.cell (T := 89) (vs := [.int .i64 (kn : Int), .int .i64 (jn : Int), .int .i64 why]) (o9.up 5) 0
      have u2 := Own.cell (T := 89) (vs := [.int .i64 (kn : Int), .int .i64 (jn : Int), .int .i64 why]) (o9.up 5) 2
      have qb := o9.celLt
      by_cases hlt : lg < 0
      · have hd : decide (lg < 0) = true := decide_eq_true hlt
        have hgc := HGC.out
        have k0 := Own.cell o9 (7 + (kn * 2 + 0)) (v := .int .i64 (cr : Int)) (by rw [kq_cnt hgc (by omega)]; rfl)
        have k1 := Own.cell o9 (7 + (kn * 2 + 1)) (v := .int .i64 (cl : Int)) (by rw [kq_cnt hgc (by omega)]; rfl)
        rw [Nat.add_zero] at k0
        rw [show 7 + (kn * 2 + 1) = 7 + kn * 2 + 1 by omega] at k1
        have qf := o9.frozen
        clear hgc
        rcases hway with ⟨rfl, hjk⟩ | ⟨rfl | rfl, hjk⟩ | ⟨rfl, hjk⟩
        · obtain ⟨kp, hkp⟩ : ∃ kp, keepsO (nu : Int) (de : Int) ((cr : Int), (cl : Int)) = kp := ⟨_, rfl⟩
          have hk := refKeeps_spec hnu hde hcr hcl o9.drew
          rw [hkp] at hk
          have a0 := Own.cell o9 0 (v := .int .i64 (nu : Int)) rfl
          have a1 := Own.cell o9 1 (v := .int .i64 (de : Int)) rfl
          have HB := Lib.hid (show bumpR (nu : Int) (de : Int) s ⟨(kn : Int), (jn : Int), 1⟩ len g.cs = if kp = true then g.cs.set kn ((cr : Int) + len, (cl : Int) + len) else g.cs by
            unfold bumpR countC
            rw [HLG.out, hd, HCN.out, hkp]
            cases kp <;> simp)
          clear hkp hjk
          go_upto_region 12 with fail
          go_region_held3 (fun w' => w'.cell? ⟨q, 0, none⟩ = some (.int .i64 (nu : Int)) ∧ w'.cell? ⟨q, 1, none⟩ = some (.int .i64 (de : Int)) ∧ w'.cell? ⟨p2, 0, none⟩ = some (.int .i64 (kn : Int)) ∧ w'.cell? ⟨p2, 2, none⟩ = some (.int .i64 1) ∧ w'.cell? ⟨q, 7 + kn * 2, none⟩ = some (.int .i64 (cr : Int)) ∧ w'.cell? ⟨q, 7 + kn * 2 + 1, none⟩ = some (.int .i64 (cl : Int))) (go_keep) (first | (go_at_call 72; (with_reducible refine hk.mono ?_); rintro e7 w7 ⟨rfl, o10, k10⟩; have b0 := Own.cell o10 0 (v := .int .i64 (nu : Int)) rfl; have b1 := Own.cell o10 1 (v := .int .i64 (de : Int)) rfl; have v0 := Own.cell (T := 89) (vs := [.int .i64 (kn : Int), .int .i64 (jn : Int), .int .i64 1]) (o10.up 5) 0; have v2 := Own.cell (T := 89) (vs := [.int .i64 (kn : Int), .int .i64 (jn : Int), .int .i64 1]) (o10.up 5) 2; have m0 := Own.cell o10 (7 + kn * 2) (v := .int .i64 (cr : Int)) (by have := kq_cnt (num := (nu : Int)) (den := (de : Int)) (reb := reb) (rp := r3) (lp := l3) (cp := c3) (xp := x3) (j := 0) HGC.out (by omega); exact this); have m1 := Own.cell o10 (7 + kn * 2 + 1) (v := .int .i64 (cl : Int)) (by have := kq_cnt (num := (nu : Int)) (den := (de : Int)) (reb := reb) (rp := r3) (lp := l3) (cp := c3) (xp := x3) (j := 1) HGC.out (by omega); exact this)))
          have K10 := (qcalm_drew K9).trans k10
          have qb2 := o10.celLt
          have qf2 := o10.frozen
          clear o9 K9 qb qf u0 u2 k0 k1 a0 a1 b0 b1 k10 hk
          cases kp with
          | true =>
            have hs1 := kq_set (num := (nu : Int)) (den := (de : Int)) (reb := reb) (rp := r3) (lp := l3) (cp := c3) (xp := x3) (j := 0) (p' := ((cr : Int) + len, (cl : Int))) (v := .int .i64 ((cr : Int) + len)) HGC.out (by omega) rfl
            have hp2 : (g.cs.set kn ((cr : Int) + len, (cl : Int)))[kn]? = some ((cr : Int) + len, (cl : Int)) := by rw [List.getElem?_set_self (List.getElem?_eq_some_iff.1 HGC.out).1]
            have hs2 := kq_set (num := (nu : Int)) (den := (de : Int)) (reb := reb) (rp := r3) (lp := l3) (cp := c3) (xp := x3) (j := 1) (p' := ((cr : Int) + len, (cl : Int) + len)) (v := .int .i64 ((cl : Int) + len)) hp2 (by omega) rfl
            rw [List.set_set] at hs2
            have oS := o10.setCell (7 + (kn * 2 + 0)) (.int .i64 ((cr : Int) + len))
            rw [hs1, Nat.add_zero] at oS
            have oS1 := oS.drew
            have e0 := Own.cell (T := 89) (vs := [.int .i64 (kn : Int), .int .i64 (jn : Int), .int .i64 1]) (oS1.up 5) 0
            have e1 := Own.cell oS1 (7 + (kn * 2 + 1)) (v := .int .i64 (cl : Int)) (by rw [kq_cnt hp2 (by omega)]; rfl)
            have e2 := oS1.frozen
            have e3 := oS1.celLt
            have oT := oS1.setCell (7 + (kn * 2 + 1)) (.int .i64 ((cl : Int) + len))
            rw [hs2] at oT
            rw [show 7 + (kn * 2 + 1) = 7 + kn * 2 + 1 by omega] at e1 oT
            have HB2 := Lib.hid (show bumpR (nu : Int) (de : Int) s ⟨(kn : Int), (jn : Int), 1⟩ len g.cs = g.cs.set kn ((cr : Int) + len, (cl : Int) + len) by rw [HB.out, if_pos rfl])
            have hwr : IntKind.i64.wrap ((cr : Int) + len) = (cr : Int) + len := by rw [IntKind.wrap_i64]; omega
            have hwr2 : IntKind.i64.wrap ((cl : Int) + len) = (cl : Int) + len := by rw [IntKind.wrap_i64]; omega
            clear hs1 hs2 hp2 HB oS oS1
            go_upto_region 13 with fail
            go_region_law (fail)
            go_upto_region 14 with fail
            go_region_law (fail)
            go_wp2
            go_meet
            exact ⟨rfl, by rw [HB2.out]; exact oT.drew, qcalm_drew (qcalm_set (qcalm_drew (qcalm_set K10)))⟩
          | false =>
            have HB2 := Lib.hid (show bumpR (nu : Int) (de : Int) s ⟨(kn : Int), (jn : Int), 1⟩ len g.cs = g.cs by rw [HB.out, if_neg (by simp)])
            go_wp2
            go_meet
            exact ⟨rfl, by rw [HB2.out]; exact o10, K10⟩
        · have HB := Lib.hid (show bumpR (nu : Int) (de : Int) s ⟨(kn : Int), (jn : Int), 2⟩ len g.cs = g.cs.set kn ((cr : Int) + len, (cl : Int)) by
            unfold bumpR
            rw [if_pos (by unfold countC; rw [HLG.out, hd]; simp), HCN.out]
            simp)
          have oS := o9.setCell (7 + (kn * 2 + 0)) (.int .i64 ((cr : Int) + len))
          rw [kq_set (j := 0) (p' := ((cr : Int) + len, (cl : Int))) (v := .int .i64 ((cr : Int) + len)) HGC.out (by omega) rfl, Nat.add_zero, ← HB.out] at oS
          have hwr : IntKind.i64.wrap ((cr : Int) + len) = (cr : Int) + len := by rw [IntKind.wrap_i64]; omega
          clear HB hjk
          go_upto_region 11 with fail
          go_region_law (fail)
          go_wp2
          go_meet
          exact ⟨rfl, oS.drew, qcalm_drew (qcalm_set K9)⟩
        · have HB := Lib.hid (show bumpR (nu : Int) (de : Int) s ⟨(kn : Int), (jn : Int), 3⟩ len g.cs = g.cs by
            unfold bumpR
            rw [if_neg]
            unfold countC
            simp)
          go_upto_region 12 with fail
          go_quiet (fail)
          go_wp2
          go_meet
          exact ⟨rfl, by rw [HB.out]; exact o9.drewN _, K9.dn _⟩
        · have HB := Lib.hid (show bumpR (nu : Int) (de : Int) s ⟨(kn : Int), (jn : Int), 4⟩ len g.cs = g.cs by
            unfold bumpR
            rw [if_neg]
            unfold countC
            simp)
          go_upto_region 12 with fail
          go_quiet (fail)
          go_wp2
          go_meet
          exact ⟨rfl, by rw [HB.out]; exact o9.drewN _, K9.dn _⟩
      · have hd : decide (lg < 0) = false := decide_eq_false hlt
        have HB := Lib.hid (show bumpR (nu : Int) (de : Int) s ⟨(kn : Int), (jn : Int), why⟩ len g.cs = g.cs by
          unfold bumpR
          rw [if_neg]
          unfold countC
          rw [HLG.out, hd]; simp)
        go_upto_region 12 with fail
        go_quiet (fail)
        go_wp2
        go_meet
        exact ⟨rfl, by rw [HB.out]; exact o9.drewN _, K9.dn _⟩
    case rest =>
      obtain ⟨-, oR, kR⟩ := hcut
      clear o9 K9
      obtain ⟨er, S', O', eC, hrC, hBC⟩ := charge_both h.r hM reb (kn : Int) len
      have he0 : er = 0 := by have := q0; rw [eC] at this; exact this
      subst he0
      have hS' : S' = (chargeR reb s.R (kn : Int) len).2 := by rw [eC]
      obtain ⟨⟨es, C2, X2⟩, hSV⟩ : ∃ y, servC reb C X ⟨(kn : Int), (jn : Int), why⟩ len = y := ⟨_, rfl⟩
      have hes : es = 0 := by rw [hSV] at qs; exact qs
      subst hes
      obtain ⟨tC2, tX2, hcC, hcX, hsvw⟩ := servC_ref hKR.c hKR.x hSV (by rcases hway with ⟨h, _⟩ | ⟨h, _⟩ | ⟨h, _⟩; exact .inl h; exact .inr (.inl h); exact .inr (.inr h))
      obtain ⟨hbl, hbn⟩ := bumpR_get (num := (nu : Int)) (den := (de : Int)) (s := s) (c := ⟨(kn : Int), (jn : Int), why⟩) (len := len) h.cl h.cn (by dsimp only; omega) HW.out
      obtain ⟨cs2, hcs2⟩ : ∃ y, bumpR (nu : Int) (de : Int) s ⟨(kn : Int), (jn : Int), why⟩ len g.cs = y := ⟨_, rfl⟩
      rw [hcs2] at hbl hbn oR
      obtain ⟨D2, hD2⟩ : ∃ y, (nMove s.D (kn : Int) (jn : Int) len).2 = y := ⟨_, rfl⟩
      have hDl : D2.length ≤ 1000 := by
        have := (nMove_ok hI.lg (kn : Int) (jn : Int) len).1.ok.len
        rw [hD2] at this; omega
      have hrel : KqRel (M + 1) (nextC (nu : Int) (de : Int) reb s C X ⟨(kn : Int), (jn : Int), why⟩ len) ⟨O', tC2, tX2, stlF D2 cs2⟩ := by
        have := next_rel (num := (nu : Int)) (den := (de : Int)) (reb := reb) (C := C) (X := X) (c := ⟨(kn : Int), (jn : Int), why⟩) (len := len) (tC := tC2) (tX := tX2) (s := s) hrC hS' (by rw [hSV]; exact hcC) (by rw [hSV]; exact hcX) hbl hbn hI.nu
        dsimp only at this
        rw [hD2] at this
        exact this
      obtain ⟨NX, hNX⟩ : ∃ y, nextC (nu : Int) (de : Int) reb s C X ⟨(kn : Int), (jn : Int), why⟩ len = y := ⟨_, rfl⟩
      have hNR : NX.R = S' := by rw [← hNX, hS']; rfl
      have hND : NX.D = D2 := by rw [← hNX, ← hD2]; rfl
      have hNC : NX.C = C2 := by rw [← hNX]; show (servC reb C X ⟨(kn : Int), (jn : Int), why⟩ len).2.1 = C2; rw [hSV]
      have hNXx : NX.X = X2 := by rw [← hNX]; show (servC reb C X ⟨(kn : Int), (jn : Int), why⟩ len).2.2 = X2; rw [hSV]
      rw [hNX] at hrel
      have HNX := Lib.hid hNX
      have HREL := Lib.hid hrel
      have HN4 := Lib.hid (And.intro hNR (And.intro hND (And.intro hNC hNXx)))
      have HSW := Lib.hid hsvw
      obtain ⟨Z23, hZ23⟩ : ∃ Z : Bool, decide (why = 2 ∨ why = 3) = Z := ⟨_, rfl⟩
      obtain ⟨Z4, hZ4⟩ : ∃ Z : Bool, decide (why = 4) = Z := ⟨_, rfl⟩
      have HWB := Lib.hid (show ((why == 2) = true ∧ Z23 = true) ∨ ((why == 2) = false ∧ (why == 3) = true ∧ Z23 = true) ∨ ((why == 2) = false ∧ (why == 3) = false ∧ Z23 = false) by
        rw [← hZ23]
        by_cases e2 : why = 2
        · exact .inl ⟨by simp [e2], by simp [e2]⟩
        · by_cases e3 : why = 3
          · exact .inr (.inl ⟨by simp [e3], by simp [e3], by simp [e3]⟩)
          · exact .inr (.inr ⟨by simp [e2], by simp [e3], by simp [e2, e3]⟩))
      have HWC := Lib.hid (show ((why == 4) = true ∧ Z4 = true) ∨ ((why == 4) = false ∧ Z4 = false) by
        rw [← hZ4]
        by_cases e2 : why = 4
        · exact .inl ⟨by simp [e2], by simp [e2]⟩
        · exact .inr ⟨by simp [e2], by simp [e2]⟩)
      have HZ23 := Lib.hid hZ23
      have HZ4 := Lib.hid hZ4
      clear hZ23 hZ4
      have HBL := Lib.hid hbl
      have hcg := hBC.ref P r3 wc.drew _ (oR.drew.re [1, 6])
      have hlgk := hI.lg
      have q3 := kq_ptr 3 oR (.inl ⟨rfl, rfl⟩)
      have u0 := Own.cell (T := 89) (vs := [.int .i64 (kn : Int), .int .i64 (jn : Int), .int .i64 why]) (oR.up 5) 0
      have hmvv : ∀ (w : World) (P : SP) (R : List SP), Own w (LedR P l3 s.D :: P :: R) → Calls Tryz.prog 74 #[.pointer (some ⟨l3, 0, none⟩), .int .i64 (kn : Int), .int .i64 (jn : Int), .int .i64 len] w (LedPost (.int .i64 0) l3 D2 P R w) := fun w P R o => by
        have := ledMove_spec (kn : Int) (jn : Int) len hlgk (by omega) o
        rw [qn, hD2] at this
        exact this
      have HMV := Lib.hid hmvv
      clear hmvv hlgk hrel hNR hND hNC hNXx hsvw hbl hbn hNX hD2 hcs2 hSV hS' eC hBC hrC hcC hcX qs qn q0 hway hI2 hKR hI HW HST HLG HCN HGC hcr hcl
      have HGL := Lib.hid h.cl
      clear h hkk hkr hlen hix hi0 hjH eC eX oCi oXi hne hLne hn0 hn1 hin hL9 hD9 l1 l2 hj0 h1 HCC HC HX HF1 HN HNL hi hm hM hN hnu hde hk32
      go_upto_region 15 with fail
      go_region_held3 (fun w' => w'.cell? ⟨q, 3, none⟩ = some (.pointer (some ⟨r3, 0, none⟩)) ∧ w'.cell? ⟨p2, 0, none⟩ = some (.int .i64 (kn : Int))) (go_keep) (first | (go_at_call 73; (with_reducible refine hcg.mono ?_); rintro e7 w7 ⟨P1, hE1, rfl, o7, k7⟩; have n3 := kq_ptr 3 (o7.up 2) (.inl ⟨rfl, rfl⟩); have n1 := Own.cell (T := 89) (vs := [.int .i64 (kn : Int), .int .i64 (jn : Int), .int .i64 why]) (o7.up 6) 0))
      have oL : Own w7 (LedR P1 l3 s.D :: RefT P1 r3 reb S'.L O' S'.tm S'.aw :: P1 :: KqC q (nu : Int) (de : Int) reb r3 l3 c3 x3 cs2 :: RefR S2 c3 reb C.el tC C.tm :: RefR S2 x3 reb X.el tX X.tm :: cel p2 89 [.int .i64 (kn : Int), .int .i64 (jn : Int), .int .i64 why] :: S2 :: Sp :: KqC b (nu : Int) (de : Int) reb rp1 lp1 cp1 xp1 g.cs :: cel w.heap.size 89 [.int .i64 0, .int .i64 0, .int .i64 0] :: R) := LedR.mono hE1 (o7.up 3)
      have K7 := (qcalm_drew kR).trans k7
      clear oR kR hcg q3 u0 n3 n1 o7 k7
      go_upto_region 17 with fail
      have hmv := HMV.out w7.drew _ _ (oL.drew.re [0, 2])
      have q4 := kq_ptr 4 (oL.up 3) (.inr (.inl ⟨rfl, rfl⟩))
      have u0 := Own.cell (T := 89) (vs := [.int .i64 (kn : Int), .int .i64 (jn : Int), .int .i64 why]) (oL.up 6) 0
      have u1 := Own.cell (T := 89) (vs := [.int .i64 (kn : Int), .int .i64 (jn : Int), .int .i64 why]) (oL.up 6) 1
      go_region_held3 (fun w' => w'.cell? ⟨q, 4, none⟩ = some (.pointer (some ⟨l3, 0, none⟩)) ∧ w'.cell? ⟨p2, 0, none⟩ = some (.int .i64 (kn : Int)) ∧ w'.cell? ⟨p2, 1, none⟩ = some (.int .i64 (jn : Int))) (go_keep) (first | (go_at_call 74; (with_reducible refine hmv.mono ?_); rintro e8 w8 ⟨P2, hE2, rfl, o8, k8⟩; have n3 := kq_ptr 4 (o8.up 3) (.inr (.inl ⟨rfl, rfl⟩)); have n0 := Own.cell (T := 89) (vs := [.int .i64 (kn : Int), .int .i64 (jn : Int), .int .i64 why]) (o8.up 6) 0; have n1 := Own.cell (T := 89) (vs := [.int .i64 (kn : Int), .int .i64 (jn : Int), .int .i64 why]) (o8.up 6) 1))
      have oT : Own w8 (RefT P2 r3 reb S'.L O' S'.tm S'.aw :: LedR P2 l3 D2 :: P2 :: KqC q (nu : Int) (de : Int) reb r3 l3 c3 x3 cs2 :: RefR S2 c3 reb C.el tC C.tm :: RefR S2 x3 reb X.el tX X.tm :: cel p2 89 [.int .i64 (kn : Int), .int .i64 (jn : Int), .int .i64 why] :: S2 :: Sp :: KqC b (nu : Int) (de : Int) reb rp1 lp1 cp1 xp1 g.cs :: cel w.heap.size 89 [.int .i64 0, .int .i64 0, .int .i64 0] :: R) := RefT.mono hE2 (o8.up 2)
      have K8 := (qcalm_drew K7).trans k8
      clear oL K7 hmv q4 u0 u1 n3 n0 n1 o8 k8
      go_upto_region 18 with fail
      go_cut [156] (fun v wc => v = .bool Z23 ∧ wc = w8)
      case first =>
        as_aux_lemma =>
          have u2 := Own.cell (T := 89) (vs := [.int .i64 (kn : Int), .int .i64 (jn : Int), .int .i64 why]) (oT.up 6) 2
          clear oT K8
          rcases HWB.out with ⟨b2, hz⟩ | ⟨b2, b3, hz⟩ | ⟨b2, b3, hz⟩
          all_goals subst hz
          all_goals go_wp2
          all_goals go_meet
          all_goals exact ⟨rfl, rfl⟩
      case rest =>
        obtain ⟨rfl, rfl⟩ := hcut
        go_upto_if 156 with fail
        go_cut [11] (fun v wc => v = .int .i64 0 ∧ Own wc (RefR S2 c3 reb C2.el tC2 C2.tm :: S2 :: RefT P2 r3 reb S'.L O' S'.tm S'.aw :: LedR P2 l3 D2 :: P2 :: KqC q (nu : Int) (de : Int) reb r3 l3 c3 x3 cs2 :: RefR S2 x3 reb X.el tX X.tm :: cel p2 89 [.int .i64 (kn : Int), .int .i64 (jn : Int), .int .i64 why] :: Sp :: KqC b (nu : Int) (de : Int) reb rp1 lp1 cp1 xp1 g.cs :: cel w.heap.size 89 [.int .i64 0, .int .i64 0, .int .i64 0] :: R) ∧ Calm w wc)
        case first =>
          as_aux_lemma =>
            cases Z23 with
            | true =>
              have hsv : ServRef reb C tC C2 tC2 (jn : Int) len := by
                have hz := of_decide_eq_true HZ23.out
                rcases HSW.out with ⟨_, h, _⟩ | ⟨h, _⟩ | ⟨h, _⟩
                · exact h
                · omega
                · omega
              have hs := hsv S2 c3 wc.drew _ (oT.drew.re [4, 7])
              have q5 := kq_ptr 5 (oT.up 3) (.inr (.inr (.inl ⟨rfl, rfl⟩)))
              have u1 := Own.cell (T := 89) (vs := [.int .i64 (kn : Int), .int .i64 (jn : Int), .int .i64 why]) (oT.up 6) 1
              clear hsv
              go_upto_region 19 with fail
              go_region_held3 (fun w' => w'.cell? ⟨q, 5, none⟩ = some (.pointer (some ⟨c3, 0, none⟩)) ∧ w'.cell? ⟨p2, 1, none⟩ = some (.int .i64 (jn : Int))) (go_keep) (first | (go_at_call 75; (with_reducible refine hs.mono ?_); rintro e9 w9 ⟨rfl, o9, k9⟩; have n3 := kq_ptr 5 (o9.up 5) (.inr (.inr (.inl ⟨rfl, rfl⟩))); have n1 := Own.cell (T := 89) (vs := [.int .i64 (kn : Int), .int .i64 (jn : Int), .int .i64 why]) (o9.up 7) 1))
              go_wp2
              go_meet
              exact ⟨rfl, o9, (qcalm_drew K8).trans k9⟩
            | false =>
              have hCC : C2 = C ∧ tC2 = tC := by
                have hz := of_decide_eq_false HZ23.out
                rcases HSW.out with ⟨h, _⟩ | ⟨_, _, h1, h2⟩ | ⟨_, h1, h2, _⟩
                · exact absurd h hz
                · exact ⟨h1, h2⟩
                · exact ⟨h1, h2⟩
              have HCC2 := Lib.hid hCC
              clear hCC
              go_wp2
              go_meet
              exact ⟨rfl, by rw [HCC2.out.1, HCC2.out.2]; exact oT.re [4, 7], K8⟩
        case rest =>
          obtain ⟨rfl, oU, kU⟩ := hcut
          clear oT K8
          go_upto_region 20 with fail
          go_cut [171] (fun v wv => v = .bool Z4 ∧ wv = wc)
          case first =>
            as_aux_lemma =>
              have u2 := Own.cell (T := 89) (vs := [.int .i64 (kn : Int), .int .i64 (jn : Int), .int .i64 why]) (oU.up 7) 2
              clear oU kU
              rcases HWC.out with ⟨b4, hz⟩ | ⟨b4, hz⟩
              all_goals subst hz
              all_goals go_wp2
              all_goals go_meet
              all_goals exact ⟨rfl, rfl⟩
          case rest =>
            obtain ⟨rfl, rfl⟩ := hcut
            go_upto_if 171 with fail
            go_cut [11] (fun v wv => v = .int .i64 0 ∧ Own wv (RefR S2 x3 reb X2.el tX2 X2.tm :: S2 :: RefR S2 c3 reb C2.el tC2 C2.tm :: RefT P2 r3 reb S'.L O' S'.tm S'.aw :: LedR P2 l3 D2 :: P2 :: KqC q (nu : Int) (de : Int) reb r3 l3 c3 x3 cs2 :: cel p2 89 [.int .i64 (kn : Int), .int .i64 (jn : Int), .int .i64 why] :: Sp :: KqC b (nu : Int) (de : Int) reb rp1 lp1 cp1 xp1 g.cs :: cel w.heap.size 89 [.int .i64 0, .int .i64 0, .int .i64 0] :: R) ∧ Calm w wv)
            case first =>
              as_aux_lemma =>
                cases Z4 with
                | true =>
                  have hsv : ServRef reb X tX X2 tX2 (jn : Int) len := by
                    have hz := of_decide_eq_true HZ4.out
                    rcases HSW.out with ⟨h, _⟩ | ⟨_, h, _⟩ | ⟨h, _⟩
                    · omega
                    · exact h
                    · omega
                  have hs := hsv S2 x3 _ _ (oU.drew.re [6, 1])
                  have q6 := kq_ptr 6 (oU.up 5) (.inr (.inr (.inr ⟨rfl, rfl⟩)))
                  have u1 := Own.cell (T := 89) (vs := [.int .i64 (kn : Int), .int .i64 (jn : Int), .int .i64 why]) (oU.up 7) 1
                  clear hsv
                  go_upto_region 21 with fail
                  go_region_held3 (fun w' => w'.cell? ⟨q, 6, none⟩ = some (.pointer (some ⟨x3, 0, none⟩)) ∧ w'.cell? ⟨p2, 1, none⟩ = some (.int .i64 (jn : Int))) (go_keep) (first | (go_at_call 75; (with_reducible refine hs.mono ?_); rintro e9 w9 ⟨rfl, o9, k9⟩; have n3 := kq_ptr 6 (o9.up 6) (.inr (.inr (.inr ⟨rfl, rfl⟩))); have n1 := Own.cell (T := 89) (vs := [.int .i64 (kn : Int), .int .i64 (jn : Int), .int .i64 why]) (o9.up 7) 1))
                  go_wp2
                  go_meet
                  exact ⟨rfl, o9, (qcalm_drew kU).trans k9⟩
                | false =>
                  have hXX : X2 = X ∧ tX2 = tX := by
                    have hz := of_decide_eq_false HZ4.out
                    rcases HSW.out with ⟨_, _, h1, h2⟩ | ⟨h, _⟩ | ⟨_, _, _, h1, h2⟩
                    · exact ⟨h1, h2⟩
                    · exact absurd h hz
                    · exact ⟨h1, h2⟩
                  have HXX2 := Lib.hid hXX
                  clear hXX
                  go_wp2
                  go_meet
                  exact ⟨rfl, by rw [HXX2.out.1, HXX2.out.2]; exact oU.re [6, 1], kU⟩
            case rest =>
              obtain ⟨rfl, oV, kV⟩ := hcut
              clear oU kU
              have hst := settle_spec HBL.out (by omega) (oV.re [6, 4, 5])
              go_wp2_with fail
              refine hst.mono ?_
              rintro e9 w9 ⟨cs', hst', rfl, o9, k9⟩
              have hcs' := hst'.eq
              subst hcs'
              clear hst hst' oV
              obtain ⟨CS, hld, w10, hsv, oM, kM⟩ := kq_move (stlF_len D2 cs2) HGL.out (o9.re [0, 9])
              have u0 := Own.cell (T := 89) (vs := [.int .i64 (kn : Int), .int .i64 (jn : Int), .int .i64 why]) (oM.up 7) 0
              have u1 := Own.cell (T := 89) (vs := [.int .i64 (kn : Int), .int .i64 (jn : Int), .int .i64 why]) (oM.up 7) 1
              have u2 := Own.cell (T := 89) (vs := [.int .i64 (kn : Int), .int .i64 (jn : Int), .int .i64 why]) (oM.up 7) 2
              have z0 := Own.cell (T := 89) (vs := [.int .i64 0, .int .i64 0, .int .i64 0]) (oM.up 9) 0
              have z1 := Own.cell (T := 89) (vs := [.int .i64 0, .int .i64 0, .int .i64 0]) (oM.up 9) 1
              have z2 := Own.cell (T := 89) (vs := [.int .i64 0, .int .i64 0, .int .i64 0]) (oM.up 9) 2
              have zf := Own.frozen (T := 89) (vs := [.int .i64 0, .int .i64 0, .int .i64 0]) (oM.up 9)
              have zl := Own.celLt (T := 89) (vs := [.int .i64 0, .int .i64 0, .int .i64 0]) (oM.up 9)
              have y5 := Own.setCell (T := 89) (vs := [.int .i64 0, .int .i64 0, .int .i64 0]) (oM.up 9) 0 (.int .i64 (kn : Int))
              have y6 := Own.setCell (T := 89) (vs := [.int .i64 (kn : Int), .int .i64 0, .int .i64 0]) y5 1 (.int .i64 (jn : Int))
              have y7 := Own.setCell (T := 89) (vs := [.int .i64 (kn : Int), .int .i64 (jn : Int), .int .i64 0]) y6 2 (.int .i64 why)
              have qb := o9.celLt
              have KM := (kV.trans k9).trans kM
              clear oM y5 y6 o9 kV k9 kM
              go_wp2
              refine bodyPost_ret (v := .tuple #[chV ⟨(kn : Int), (jn : Int), why⟩, .int .i64 0]) ?_ rfl ?_
              · exact chRow2 (p := w.heap.size) rfl rfl rfl y7
              · refine ⟨P2, S2, ⟨O', tC2, tX2, stlF D2 cs2⟩, ?_⟩
                rw [HNX.out]
                refine ⟨HREL.out, rfl, KqT.iff.2 ⟨r3, l3, c3, x3, ?_⟩, qcalm_set (qcalm_set (qcalm_set KM))⟩
                rw [HN4.out.1, HN4.out.2.1, HN4.out.2.2.1, HN4.out.2.2.2]
                exact y7.drop.re [7, 0, 6, 1, 5, 3, 2, 4, 8] 1
end
end Go.Proofs.YtjpahfkchhnpoaaGreat
