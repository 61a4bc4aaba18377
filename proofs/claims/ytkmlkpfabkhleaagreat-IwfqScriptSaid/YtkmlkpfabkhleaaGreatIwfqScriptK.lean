/- Texts that the law rests on, put together by a program. -/
import Derived.Test.YtkmlkpfabkhleaaGreatIwfqScriptI
import Derived.Test.YtkmlkpfabkhleaaGreatIwfqScriptJ
/- The reference of iwfq: Leave. -/
namespace Go.Proofs.YtkmlkpfabkhleaaGreat
open Go.RowKit
open SP
section
variable {w w' : World} {R : List SP} {b pr : Nat} {at_ : Int} {O : List Tg} {P Sp : SP} {S : St} {m : List (Int × Acc)}

set_option maxHeartbeats 3200000 in
set_option maxRecDepth 100000 in
theorem refLeaveI_none {f : Int} (hok : LOk S.L) (hf : fget S.L f = none) (o : Own w (IwT P b at_ S O m :: P :: R)) :
    Calls Tryz.prog 73 #[.pointer (some ⟨b, 0, none⟩), .int .i64 f] w (IsRet (.tuple #[.int .i64 0, .int .i64 6]) w) := by
  obtain ⟨pr, aB, cB, o1⟩ := IwT.iff.1 o
  have hlen := hok.len
  have c0 := o1.cell 0
  have hi := index_spec f (by omega) (o1.re [1, 3])
  rw [idxT_none 0 _ hf] at hi
  clear hf
  go_enter Tryz.func73, Tryz.ntmps73
  go_wp2_with fail
  refine hi.mono ?_
  rintro e1 w1 ⟨rfl, rfl⟩
  go_wp2
  go_ret2
  exact ⟨rfl, rfl⟩

def LvB (b pr : Nat) (at_ : Int) (L' : List Tg) (O' : List Tg) (tm aw : Int) (m1 : List (Int × Acc)) (P' : SP) (R : List SP) (w wc : World) : Prop :=
  ∃ (aN : Option Addr) (cN : Nat), Own wc (IwTc b pr aN L'.length cN :: RefT P' pr at_ L' O' tm aw :: bdS aN cN m1 L' :: P' :: R) ∧ Calm w wc
theorem lv_b {b pr n n0 c0 c6 : Nat} {a0 a6 : Option Addr} {at_ tm aw : Int} {L' O' : List Tg} {m1 : List (Int × Acc)} {P' B0 : SP} {xs : List Value} {w w6 : World} (hn : n = L'.length) (hx : xs = flat (bdC m1) L')
    (o : Own w6 (slc 145 4 a6 n c6 xs :: IwTc b pr a0 n0 c0 :: B0 :: RefT P' pr at_ L' O' tm aw :: P' :: R)) (k : Calm w w6) :
    LvB b pr at_ L' O' tm aw m1 P' R w (w6.setCell ⟨b, 1, none⟩ (.slice a6 n c6)) := by
  subst hn
  subst hx
  have oA := (((o.re [2] 1).re [1]).setCell 1 (.slice a6 L'.length c6)).re [0, 2, 1]
  exact ⟨a6, c6, oA, ⟨k.os, k.tape, k.output⟩⟩
theorem Tryz.i64tF : ElemT Tryz.prog 45 2 1 8 := ElemT.mk' Tryz.underlying45 (z := .int .i64 0) (by kernel_rfl) (by kernel_rfl) (by omega)
def LvP (b pr : Nat) (at_ : Int) (L' : List Tg) (O' : List Tg) (tm aw : Int) (aN : Option Addr) (cN : Nat) (had : Int) (m1 : List (Int × Acc)) (P' : SP) (R : List SP) (w : World) (v8 v9 v10 : Value) (wr : World) : Prop :=
  ∃ (k : Nat) (a8 a9 : Option Addr) (c8 c9 : Nat), v10 = .int .i64 (k : Int) ∧ v8 = .slice a8 k c8 ∧ v9 = .slice a9 k c9 ∧ k ≤ L'.length ∧
    Own wr (slc 162 2 a8 k c8 (flat part (ptsOf (L'.take k))) :: slc 2 1 a9 k c9 (i64s ((L'.take k).map (capI had m1))) :: IwTc b pr aN L'.length cN :: RefT P' pr at_ L' O' tm aw :: bdS aN cN m1 L' :: P' :: R) ∧ Calm w wr
def LvG (b pr : Nat) (at_ : Int) (L' : List Tg) (O' : List Tg) (tm aw : Int) (aN : Option Addr) (cN : Nat) (ax : Option Addr) (cx : Nat) (sg : Int) (G : List Int) (m1 : List (Int × Acc)) (P' : SP) (R : List SP) (w : World) (v14 : Value) (wr : World) : Prop :=
  ∃ k : Nat, v14 = .int .i64 (k : Int) ∧ k ≤ L'.length ∧
    Own wr (slc 2 1 ax L'.length cx (i64s G) :: IwTc b pr aN L'.length cN :: RefT P' pr at_ L' O' tm aw :: bdS aN cN (giveI sg ((L'.zip G).take k) m1) L' :: P' :: R) ∧ Calm w wr

set_option maxHeartbeats 12800000 in
set_option maxRecDepth 100000 in
theorem refLeaveI_ok {S' : St} {O' : List Tg} {f : Int} {t : Tg} (hok : LOk S.L) (hok' : LOk S'.L) (hu : Uniq m) (hm : ∀ g, accIn (accO m g)) (hf : fget S.L f = some t) (hL' : S'.L = delT f S.L)
    (hj : ∀ (P : SP) (b : Nat) (w : World) (R : List SP), Own w (RefT P b at_ S.L O S.tm S.aw :: P :: R) → Calls Tryz.prog 104 #[.pointer (some ⟨b, 0, none⟩), .int .i64 f] w (SetWT b at_ S'.L O' S'.tm S'.aw P R w 0))
    (o : Own w (IwT P b at_ S O m :: P :: R)) :
    Calls Tryz.prog 73 #[.pointer (some ⟨b, 0, none⟩), .int .i64 f] w
      (fun e w' => ∃ P', Ret (.tuple #[.int .i64 (accO m f).1, .int .i64 0]) (IwT P' b at_ S' O' (handI (accO m f).1 (mdel m f) S'.L) :: P' :: R) w e w') := by
  obtain ⟨pr, aB, cB, o1⟩ := IwT.iff.1 o
  have hlen := hok.len
  have htf := (fget_some hf).2
  have c0 := o1.cell 0
  have c1 := o1.cell 1
  obtain ⟨i, hit, hix⟩ := idxT_some 0 S.L hf
  have hi := index_spec f (by omega) (o1.re [1, 3])
  rw [hix, Nat.zero_add] at hi
  have hil := (List.getElem?_eq_some_iff.1 hit).1
  have hbl := bd_leave hu hok.asc hit
  rw [htf, ← hL'] at hbl
  have hlL : S'.L.length + 1 = S.L.length := by
    have := congrArg List.length (delT_atP hok.asc hit)
    rw [htf, ← hL', List.length_append, List.length_take, List.length_drop] at this
    omega
  have hm1 : ∀ g, accIn (accO (mdel m f) g) := fun g => by
    rw [accO_mdel hu]
    split
    · unfold accIn; decide
    · exact hm g
  have hmf := hm f
  obtain ⟨g, rfl, hcg, _, _⟩ := (o1.up 2).slc_cell (by omega)
  have k1 := hcg (i * 4 + 1) _ (flat_get (bdC_len m) S.L i 1 t hit (by omega))
  change World.cell? _ ⟨g, i * 4 + 1, none⟩ = some (.int .i64 (accO m t.f).1) at k1
  rw [htf] at k1
  have hone := bd_one m S.L
  have hfll : (flat (bdC m) S.L).length = S.L.length * 4 := flat_length (bdC_len m) S.L
  obtain ⟨n, hn⟩ : ∃ n, S.L.length = n := ⟨_, rfl⟩
  obtain ⟨Xs, hXs⟩ : ∃ Xs, flat (bdC m) S.L = Xs := ⟨_, rfl⟩
  obtain ⟨m1, hm1e⟩ : ∃ m1, mdel m f = m1 := ⟨_, rfl⟩
  obtain ⟨L', hLe⟩ : ∃ L', S'.L = L' := ⟨_, rfl⟩
  rw [hm1e] at hbl hm1 ⊢
  rw [hLe] at hbl hlL hok' ⊢
  unfold accIn at hmf
  have hlag0 : -1099511627776 ≤ (accO m f).1 ∧ (accO m f).1 ≤ 1099511627776 := by omega
  obtain ⟨had, hhad⟩ : ∃ had, (accO m f).1 = had := ⟨_, rfl⟩
  rw [hhad] at k1 hlag0 ⊢
  unfold bdS at o1
  rw [hn, hXs] at o1
  have hcall := hj P pr w _ (o1.re [1, 3])
  rw [hLe] at hcall
  rw [hn] at c1 hil hlL hlen hfll
  rw [hXs] at hbl hone hfll
  have HBL := Lib.hid hbl
  have HLE := Lib.hid hLe
  have HLL := Lib.hid hlL
  have HFLL := Lib.hid hfll
  have HONE := Lib.hid hone
  have HM1 := Lib.hid hm1
  have HOK := Lib.hid hok'
  have hl32 : L'.length ≤ 32 := hok'.len
  have HLAG := Lib.hid hlag0
  have hSR : IwT P b at_ S O m = IwT P b at_ S O m := rfl
  have hgi : decide ((i : Int) < 0) = false := decide_eq_false (by omega)
  clear hSR hj hcg hmf hm1 hok hok' hbl hlL hone hfll hf hit hix hu hm hm1e hLe hXs hhad hlag0
  go_enter Tryz.func73, Tryz.ntmps73
  go_wp2_with fail
  refine hi.mono ?_
  rintro e1 w1 ⟨rfl, rfl⟩
  go_wp2_with fail
  refine hcall.mono ?_
  rintro e3 w3 ⟨P', hPE, rfl, o3, k3⟩
  have oo : Own w3 (IwTc b pr (some ⟨g, 0, none⟩) n cB :: slc 145 4 (some ⟨g, 0, none⟩) n cB Xs :: RefT P' pr at_ L' O' S'.tm S'.aw :: P' :: R) := o3.re [2, 3, 0, 1]
  clear hcall o1 o hi c0 c1 k1 o3 hn
  have hL1 : L'.length = i + (n - (i + 1)) := by have := HLL.out; omega
  have HL1 := Lib.hid hL1
  have ci : i + 1 ≤ cB := by have := (oo.up 1).slc_len.2.1; omega
  have oZ := slc_zero (e := 145) (size := 4) ((oo.drew.alloc (.cells #[] 145)))
  have s1 := slc_cut (e := 145) (size := 4) (g := g) (n := n) (c := cB) (i := 0) (k := i) (c' := cB) (by omega) HONE.out (oZ.up 2)
  rw [Nat.zero_mul, List.drop_zero] at s1
  have c1 := oo.cell 1
  have hfz := oo.frozen
  have hlt := oo.celLt
  have b1 : (0 : Int) ≤ (i : Int) := by omega
  have b2 : (i : Int) ≤ (cB : Int) := by omega
  have b2' : i ≤ cB := by omega
  have b7 : (i : Int) + 1 ≤ (n : Int) := by omega
  have b8 : (i : Int) + 1 ≤ (cB : Int) := by omega
  have b9 : i + 1 ≤ n := by omega
  have b4 : 0 ≤ (i : Int) + 1 := by omega
  have N1 : Hid (0 + i ≤ maxLen) := Lib.hid (by unfold maxLen; omega)
  have N2 : Hid ((0 + i) * 32 ≤ 140737488355328) := Lib.hid (by omega)
  have N3 : Hid (i + (n - (i + 1)) ≤ maxLen) := Lib.hid (by unfold maxLen; omega)
  have N4 : Hid ((i + (n - (i + 1))) * 32 ≤ 140737488355328) := Lib.hid (by omega)
  have b5 : IntKind.i64.wrap ((i : Int) + 1) = (i : Int) + 1 := by rw [IntKind.wrap_i64]; omega
  have b6 : ((i : Int) + 1).toNat = i + 1 := by omega
  clear hL1
  go_upto_region 6 with fail
  go_cut [45] (fun _ wc => LvB b pr at_ L' O' S'.tm S'.aw m1 P' R w wc)
  case first =>
    by_cases hic : i + 1 = cB
    · have hzz : n - (i + 1) = 0 := by have := (oo.up 1).slc_len.2.1; omega
      have HZZ := Lib.hid hzz
      subst hic
      have z1 : (i : Int) ≤ (i : Int) + 1 := by omega
      have z2 : (n : Int) ≤ (i : Int) + 1 := by omega
      have z3 : n ≤ i + 1 := by omega
      have src0 : ∀ (w : World) (a : Option Addr) (c' : Nat), IsSrc w (.slice a 0 c') 4 0 [] := fun w a c' => ⟨a, c', rfl, by simp, by simp, .inl rfl⟩
      have SRC := Lib.hid src0
      have N5 : Hid (i + 0 ≤ maxLen) := Lib.hid (by unfold maxLen; omega)
      have N6 : Hid ((i + 0) * 32 ≤ 140737488355328) := Lib.hid (by omega)
      clear src0 hzz
      go_region_law (first
        | (refine step_append_src rfl _ _ rfl Tryz.bndT rfl oZ rfl s1 N1.out N2.out ?_; intro a5 c5 w5 o5 k5; have o5z := slc_plus o5; have q5 := (o5.up 1).cell 1)
        | (refine step_append_src rfl _ _ rfl Tryz.bndT rfl o5z rfl (SRC.out _ _ _) N5.out N6.out ?_; intro a6 c6 w6 o6 k6; have q6 := (o6.up 1).cell 1; have qf6 := (o6.up 1).frozen; have ql6 := (o6.up 1).celLt))
      all_goals go_wp2
      all_goals go_meet
      all_goals (have k10 := Calm.trans k5 k6; exact lv_b (by rw [HL1.out, HZZ.out, Nat.add_zero]) (by rw [← HBL.out, List.append_nil, List.drop_eq_nil_of_le (by rw [HFLL.out]; omega), List.append_nil]) o6 (k3.trans ⟨k10.os, k10.tape, k10.output⟩))
    · have hic2 : ((i : Int) + 1 == (cB : Int)) = false := by rw [beq_eq_false_iff_ne]; omega
      have hic3 : ¬ cB = i + 1 := by omega
      have hp2 : ∀ (w : World) (R : List SP), Own w (slc 145 4 (some ⟨g, 0, none⟩) n cB Xs :: R) → IsSrc w (.slice (some ⟨g, (i + 1) * 4, none⟩) (n - (i + 1)) (cB - (i + 1))) 4 (n - (i + 1)) (Xs.drop ((i + 1) * 4)) := fun w R o => by
        have s2 := slc_cut (e := 145) (size := 4) (g := g) (n := n) (c := cB) (i := i + 1) (k := n - (i + 1)) (c' := cB - (i + 1)) (by omega) HONE.out o
        rw [List.take_of_length_le (by rw [List.length_drop, HFLL.out]; omega)] at s2
        exact s2
      have HP2 := Lib.hid hp2
      clear hp2
      go_region_law (first
        | (refine step_append_src rfl _ _ rfl Tryz.bndT rfl oZ rfl s1 N1.out N2.out ?_; intro a5 c5 w5 o5 k5; have o5z := slc_plus o5; have q5 := (o5.up 1).cell 1)
        | (refine step_append_src rfl _ _ rfl Tryz.bndT rfl o5z rfl (HP2.out _ _ (o5z.up 2)) N3.out N4.out ?_; intro a6 c6 w6 o6 k6; have q6 := (o6.up 1).cell 1; have qf6 := (o6.up 1).frozen; have ql6 := (o6.up 1).celLt))
      all_goals go_wp2
      all_goals go_meet
      all_goals (have k10 := Calm.trans k5 k6; exact lv_b HL1.out.symm HBL.out o6 (k3.trans ⟨k10.os, k10.tape, k10.output⟩))
  case rest =>
    clear oZ s1 oo c1 hfz hlt b1 b2 b2' b7 b8 b9 b4 N1 N2 N3 N4 b5 b6 ci HL1 HBL HLL HFLL HONE k3 hil
    obtain ⟨aN, cN, oB, kB⟩ := hcut
    obtain ⟨tm, htm⟩ : ∃ tm, S'.tm = tm := ⟨_, rfl⟩
    obtain ⟨aw, haw⟩ : ∃ aw, S'.aw = aw := ⟨_, rfl⟩
    have HTM := Lib.hid htm
    have HAW := Lib.hid haw
    rw [htm, haw] at oB
    clear htm haw
    have hT : LvP b pr at_ L' O' tm aw aN cN had m1 P' R w (.slice none 0 0) (.slice none 0 0) (.int .i64 0) wc := ⟨0, none, none, 0, 0, rfl, rfl, rfl, Nat.zero_le _, Own.slc_nil (Own.slc_nil oB), kB⟩
    have q1 := oB.cell 1
    clear oB kB
    go_wp2
    go_loopw [8, 9, 10] (fun v8 v9 v10 wr => LvP b pr at_ L' O' tm aw aN cN had m1 P' R w v8 v9 v10 wr) (fun _ _ v _ => L'.length - (ivOf v).toNat)
    case atStart => exact hT
    case round =>
      clear hT q1
      obtain ⟨k, a8, a9, c8, c9, rfl, rfl, rfl, hk, oR, kR⟩ := hrel
      have b1 := (oR.up 2).cell 1
      by_cases hlt : k < L'.length
      · obtain ⟨t', ht⟩ : ∃ t, L'[k]? = some t := ⟨_, List.getElem?_eq_getElem hlt⟩
        have HPV := Lib.hid (ptV_snoc ht)
        have hcv := capV_snoc ht had m1
        have HIN := HM1.out t'.f
        obtain ⟨gB, rfl, hcg, _, _⟩ := (oR.up 4).slc_cell (by omega)
        have k0 := hcg (k * 4 + 0) _ (flat_get (bdC_len m1) L' k 0 t' ht (by omega))
        rw [Nat.add_zero] at k0
        have k1 := hcg (k * 4 + 1) _ (flat_get (bdC_len m1) L' k 1 t' ht (by omega))
        have k2 := hcg (k * 4 + 2) _ (flat_get (bdC_len m1) L' k 2 t' ht (by omega))
        have k3 := hcg (k * 4 + 3) _ (flat_get (bdC_len m1) L' k 3 t' ht (by omega))
        change World.cell? _ ⟨gB, k * 4, none⟩ = some (.int .i64 t'.f) at k0
        change World.cell? _ ⟨gB, k * 4 + 1, none⟩ = some (.int .i64 (accO m1 t'.f).1) at k1
        change World.cell? _ ⟨gB, k * 4 + 2, none⟩ = some (.int .i64 (accO m1 t'.f).2.1) at k2
        change World.cell? _ ⟨gB, k * 4 + 3, none⟩ = some (.int .i64 (accO m1 t'.f).2.2) at k3
        have b0 := (oR.up 2).cell 0
        have bl := (oR.up 2).celLt
        obtain ⟨a1, c1', a2, c2, hpu, o3⟩ := RefT.iff.1 (oR.up 3)
        have e1 := o3.cell 1
        have el := o3.celLt
        obtain ⟨g', so, rfl, t0, t1, t2⟩ := hpu.1.1 _ _ (o3.up 5) k _ ht
        have HPU := Lib.hid hpu
        have HK := Lib.hid (fun (w : World) (R : List SP) (o : Own w (bdS (some ⟨gB, 0, none⟩) cN m1 L' :: R)) => show (w.cell? ⟨gB, k * 4, none⟩ = some (.int .i64 t'.f) ∧ w.cell? ⟨gB, k * 4 + 1, none⟩ = some (.int .i64 (accO m1 t'.f).1) ∧ w.cell? ⟨gB, k * 4 + 2, none⟩ = some (.int .i64 (accO m1 t'.f).2.1) ∧ w.cell? ⟨gB, k * 4 + 3, none⟩ = some (.int .i64 (accO m1 t'.f).2.2)) from by
          obtain ⟨g2, hg2, hcg, _, _⟩ := o.slc_cell (by omega)
          cases hg2
          exact ⟨hcg (k * 4 + 0) _ (flat_get (bdC_len m1) L' k 0 t' ht (by omega)), hcg (k * 4 + 1) _ (flat_get (bdC_len m1) L' k 1 t' ht (by omega)), hcg (k * 4 + 2) _ (flat_get (bdC_len m1) L' k 2 t' ht (by omega)), hcg (k * 4 + 3) _ (flat_get (bdC_len m1) L' k 3 t' ht (by omega))⟩)
        have HG := Lib.hid (fun (w : World) (R : List SP) (o : Own w (P' :: R)) => show (w.cell? ⟨g', so + k * 3 + 1, none⟩ = some (.int .i64 t'.w)) from by
          obtain ⟨g2, so2, hg2, u0, u1, u2⟩ := hpu.1.1 _ _ o k _ ht
          cases hg2
          exact u1)
        clear hpu ht hcg
        obtain ⟨y1, y2, y3, y4, y5, y6⟩ := HIN
        have hcapE : capI had m1 t' = if 0 < had then (accO m1 t'.f).2.1 - (accO m1 t'.f).1 else (accO m1 t'.f).2.2 + (accO m1 t'.f).1 := rfl
        generalize accO m1 t'.f = cn at *
        obtain ⟨q1, q2, q3⟩ := cn
        dsimp only at *
        have wA := IntWalk.i64_in (q2 - q1) (by omega)
        have wB := IntWalk.i64_in (q3 + q1) (by omega)
        clear y1 y2 y3 y4 y5 y6
        have oX := (o3.alloc (.cells #[.int .i64 t'.f, .int .i64 t'.w] 162)).drew
        have hnw := Own.news (T := 162) oX
        have hk32 : k ≤ 32 := by omega
        go_upto_region 12 with fail
        go_region_held3 (fun w' => w'.cell? ⟨b, 0, none⟩ = some (.pointer (some ⟨pr, 0, none⟩)) ∧ w'.cell? ⟨b, 1, none⟩ = some (.slice (some ⟨gB, 0, none⟩) L'.length cN) ∧ w'.cell? ⟨pr, 1, none⟩ = some (.slice (some ⟨g', so, none⟩) L'.length c1') ∧ w'.cell? ⟨gB, k * 4, none⟩ = some (.int .i64 t'.f) ∧ w'.cell? ⟨g', so + k * 3 + 1, none⟩ = some (.int .i64 t'.w)) (go_keep) (first
          | (refine step_append_src rfl _ _ rfl Tryz.partT rfl (oX.up 2) rfl ⟨_, _, rfl, rfl, by intro u hu; simp only [List.mem_cons, List.not_mem_nil, or_false] at hu; rcases hu with rfl | rfl <;> rfl, .inr ⟨_, rfl, hnw⟩⟩ (by unfold maxLen; omega) (by omega) ?_; intro aa cc w5 o5 k5; have f0 := (o5.up 4).cell 0; have f1 := (o5.up 4).cell 1; have f2 := (o5.up 2).cell 1; obtain ⟨x0, x1, x2, x3⟩ := HK.out _ _ (o5.up 5); have z1 := HG.out _ _ (o5.up 6)))
        have K5 := (qcalm_drew (qcalm_alloc (x := .cells #[.int .i64 t'.f, .int .i64 t'.w] 162) kR)).trans k5
        have o5 := o5.re [1] 1
        rw [← HPV.out] at o5
        obtain ⟨Z, hZ⟩ : ∃ Z, decide (0 < had) = Z := ⟨_, rfl⟩
        cases Z with
        | true =>
          have hp : 0 < had := by simpa using hZ
          rw [if_pos hp] at hcapE
          rw [hcapE] at hcv
          have HCV := Lib.hid hcv
          clear hcv hcapE hp
          have f1 := (o5.up 3).cell 1
          have fl := (o5.up 3).celLt
          obtain ⟨x0, x1, x2, x3⟩ := HK.out _ _ (o5.up 4)
          have oY := (o5.alloc (.cells #[.int .i64 (q2 - q1)] 2)).drew
          have hny := Own.news (T := 2) oY
          go_upto_region 14 with fail
          go_region_held3 (fun w' => w'.cell? ⟨b, 1, none⟩ = some (.slice (some ⟨gB, 0, none⟩) L'.length cN) ∧ w'.cell? ⟨gB, k * 4 + 2, none⟩ = some (.int .i64 q2) ∧ w'.cell? ⟨gB, k * 4 + 1, none⟩ = some (.int .i64 q1)) (go_keep) (first
            | (refine step_append_src rfl _ _ rfl Tryz.i64tF rfl (oY.up 3) rfl ⟨_, _, rfl, rfl, by intro u hu; simp only [List.mem_cons, List.not_mem_nil, or_false] at hu; rcases hu with rfl; rfl, .inr ⟨_, rfl, hny⟩⟩ (by unfold maxLen; omega) (by omega) ?_; intro ab cb w7 o7 k7; have h1 := (o7.up 4).cell 1; obtain ⟨v0, v1, v2, v3⟩ := HK.out _ _ (o7.up 5)))
          have K7 := (qcalm_drew (qcalm_alloc (x := .cells #[.int .i64 (q2 - q1)] 2) K5)).trans k7
          rw [← HCV.out] at o7
          go_wp2
          go_roundw
          case rel => exact ⟨k + 1, aa, ab, cc, cb, by go_num, rfl, rfl, by omega, ((RefT.iff.2 ⟨_, _, _, _, HPU.out, (o7.re [1] 1).re [2]⟩ : Own _ (RefT P' pr at_ L' O' tm aw :: _)).re [2, 1, 3, 0, 4]), K7⟩
          case measure => simp [ivOf]; omega
        | false =>
          have hp : ¬ 0 < had := by simpa using hZ
          rw [if_neg hp] at hcapE
          rw [hcapE] at hcv
          have HCV := Lib.hid hcv
          clear hcv hcapE hp
          have f1 := (o5.up 3).cell 1
          have fl := (o5.up 3).celLt
          obtain ⟨x0, x1, x2, x3⟩ := HK.out _ _ (o5.up 4)
          have oY := (o5.alloc (.cells #[.int .i64 (q3 + q1)] 2)).drew
          have hny := Own.news (T := 2) oY
          go_upto_region 15 with fail
          go_region_held3 (fun w' => w'.cell? ⟨b, 1, none⟩ = some (.slice (some ⟨gB, 0, none⟩) L'.length cN) ∧ w'.cell? ⟨gB, k * 4 + 3, none⟩ = some (.int .i64 q3) ∧ w'.cell? ⟨gB, k * 4 + 1, none⟩ = some (.int .i64 q1)) (go_keep) (first
            | (refine step_append_src rfl _ _ rfl Tryz.i64tF rfl (oY.up 3) rfl ⟨_, _, rfl, rfl, by intro u hu; simp only [List.mem_cons, List.not_mem_nil, or_false] at hu; rcases hu with rfl; rfl, .inr ⟨_, rfl, hny⟩⟩ (by unfold maxLen; omega) (by omega) ?_; intro ab cb w7 o7 k7; have h1 := (o7.up 4).cell 1; obtain ⟨v0, v1, v2, v3⟩ := HK.out _ _ (o7.up 5)))
          have K7 := (qcalm_drew (qcalm_alloc (x := .cells #[.int .i64 (q3 + q1)] 2) K5)).trans k7
          rw [← HCV.out] at o7
          go_wp2
          go_roundw
          case rel => exact ⟨k + 1, aa, ab, cc, cb, by go_num, rfl, rfl, by omega, ((RefT.iff.2 ⟨_, _, _, _, HPU.out, (o7.re [1] 1).re [2]⟩ : Own _ (RefT P' pr at_ L' O' tm aw :: _)).re [2, 1, 3, 0, 4]), K7⟩
          case measure => simp [ivOf]; omega
      · have hkn : k = L'.length := by omega
        subst hkn
        rw [List.take_length] at oR
        have hmx := sgI_mul had
        have hrf := refFill_spec (a := sgI had * had) (l := ptsOf L') (cs := L'.map (capI had m1)) (n := L'.length) (pc := c8) (cc := c9) (by rw [hmx]; omega) (by rw [hmx]; have := HLAG.out; omega) (ptOk_of HOK.out) (ptsOf_len L').symm (List.length_map _).symm (caps_rng HM1.out had L') oR
        rw [pts_ws] at hrf
        have hmx2 : max had (-had) = sgI had * had := hmx.symm
        have wn := IntWalk.i64_in (-had) (by have := HLAG.out; omega)
        obtain ⟨AM, hAM⟩ : ∃ AM, sgI had * had = AM := ⟨_, rfl⟩
        unfold FilPost at hrf
        have hgv : (fillI (sgI had * had) (L'.map (·.w)) (L'.map (capI had m1))).1 = gvI had m1 L' := rfl
        rw [hgv] at hrf
        obtain ⟨rr, hrr⟩ : ∃ rr, (fillI (sgI had * had) (L'.map (·.w)) (L'.map (capI had m1))).2 = rr := ⟨_, rfl⟩
        rw [hrr] at hrf
        rw [hAM] at hrf hmx2
        have HG1 := Lib.hid (fun k hk => gv_get (had := had) (k := k) HM1.out HOK.out hk)
        have HGL := Lib.hid (gv_ok (had := had) HM1.out HOK.out).2.1
        have HH : handI had m1 L' = giveI (sgI had) (L'.zip (gvI had m1 L')) m1 := rfl
        have HHN := Lib.hid HH
        have HSG := Lib.hid (fun (g : Int) (h : had = 0 → g = 0) => sg_mul (had := had) h)
        obtain ⟨G, hG⟩ : ∃ G, gvI had m1 L' = G := ⟨_, rfl⟩
        rw [hG] at hrf HG1 HGL HHN
        obtain ⟨sg, hsg⟩ : ∃ sg, sgI had = sg := ⟨_, rfl⟩
        rw [hsg] at HHN HSG
        clear hmx hAM hgv hrr hG hsg HH hlt hk
        go_wp2_with fail
        refine hrf.mono ?_
        rintro e7 w7 ⟨ax, cx, rfl, o7, k7⟩
        clear hrf
        have oS := (o7.re [1, 2] 2)
        have hT : LvG b pr at_ L' O' tm aw aN cN ax cx sg G m1 P' R w (.int .i64 0) w7 := ⟨0, rfl, Nat.zero_le _, oS, kR.trans k7⟩
        clear oS o7 k7 kR oR
        go_wp2
        go_loopw [14] (fun v14 wr => LvG b pr at_ L' O' tm aw aN cN ax cx sg G m1 P' R w v14 wr) (fun v _ => L'.length - (ivOf v).toNat)
        case atStart => exact hT
        case round =>
          clear hT
          obtain ⟨k, rfl, hk, oR, kR⟩ := hrel
          by_cases hlt : k < L'.length
          · obtain ⟨t', ht⟩ : ∃ t, L'[k]? = some t := ⟨_, List.getElem?_eq_getElem hlt⟩
            obtain ⟨g, hg, hg0, hg1, hgz⟩ := HG1.out k hlt
            have hsgm := HSG.out g hgz
            have hac := accO_take (m := m1) (sg := sg) (G := G) HOK.out.asc ht
            have hgt := give_take (m := m1) (sg := sg) ht hg
            have hIN := HM1.out t'.f
            obtain ⟨mk, hmk⟩ : ∃ mk, giveI sg ((L'.zip G).take k) m1 = mk := ⟨_, rfl⟩
            rw [hmk] at hac hgt oR
            rw [← hac] at hIN
            clear hac hmk
            have hbs := bd_set (m := mk) HOK.out.asc ht ((accO mk t'.f).1 + sg * g)
            have hgt2 : giveI sg ((L'.zip G).take (k + 1)) m1 = mput mk t'.f ((accO mk t'.f).1 + sg * g, (accO mk t'.f).2) := hgt
            rw [← hgt2, hsgm] at hbs
            have HBS := Lib.hid hbs
            clear hgt hgt2 hbs hsgm hgz
            have c1 := (oR.up 1).cell 1
            obtain ⟨gx, rfl, hcx, _, _⟩ := oR.slc_cell (by omega)
            have d0 := hcx k _ (i64s_get hg)
            obtain ⟨gB, rfl, hcb, hfb, hlb⟩ := (oR.up 3).slc_cell (by omega)
            have d1 := hcb (k * 4 + 1) _ (flat_get (bdC_len mk) L' k 1 t' ht (by omega))
            change World.cell? _ ⟨gB, k * 4 + 1, none⟩ = some (.int .i64 (accO mk t'.f).1) at d1
            have df := hfb (k * 4 + 1)
            have oU := fun v => (oR.up 3).slc_set (k * 4 + 1) (.int .i64 v) (by rw [flat_length (bdC_len mk)]; omega)
            unfold accIn at hIN
            clear hcx hcb hfb ht hg
            generalize (accO mk t'.f).1 = q at *
            have wA := IntWalk.i64_in (q + g) (by omega)
            have wB := IntWalk.i64_in (q - g) (by omega)
            have hqg : q + -g = q - g := by omega
            by_cases hp : 0 < had
            · rw [if_pos hp] at HBS
              have oV := oU (q + g)
              rw [HBS.out] at oV
              have hZ : decide (0 < had) = true := decide_eq_true hp
              clear oU hIN
              go_wp2
              refine wp_region_tail 12 (by kernel_rfl) (by kernel_rfl) ?_
              simp only [List.take_succ_cons, List.take_zero, List.drop_succ_cons, List.drop_zero]
              repeat still_step
              refine wpStill_nil ?_
              go_wp2
              go_roundw
              case rel => exact ⟨k + 1, by go_num, by omega, oV.re [1, 2, 3, 0], kR.trans ⟨rfl, rfl, rfl⟩⟩
              case measure => simp [ivOf]; omega
            · rw [if_neg hp, hqg] at HBS
              have oV := oU (q - g)
              rw [HBS.out] at oV
              have hZ : decide (0 < had) = false := decide_eq_false hp
              clear oU hIN
              go_wp2
              refine wp_region_tail 12 (by kernel_rfl) (by kernel_rfl) ?_
              simp only [List.take_succ_cons, List.take_zero, List.drop_succ_cons, List.drop_zero]
              repeat still_step
              refine wpStill_nil ?_
              go_wp2
              go_roundw
              case rel => exact ⟨k + 1, by go_num, by omega, oV.re [1, 2, 3, 0], kR.trans ⟨rfl, rfl, rfl⟩⟩
              case measure => simp [ivOf]; omega
          · have hkn : k = L'.length := by omega
            rw [hkn, zip_full HGL.out] at oR
            clear hkn
            go_wp2
            go_ret2
            refine ⟨P', rfl, IwT.iff.2 ⟨pr, aN, cN, ?_⟩, kR⟩
            rw [HLE.out, HTM.out, HAW.out, HHN.out]
            exact oR.drop
end
end Go.Proofs.YtkmlkpfabkhleaaGreat
