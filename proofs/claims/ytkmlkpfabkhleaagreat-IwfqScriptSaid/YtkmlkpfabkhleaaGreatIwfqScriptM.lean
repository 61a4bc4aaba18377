/- Texts that the law rests on, put together by a program. -/
import Derived.Test.YtkmlkpfabkhleaaGreatIwfqScriptL
/- IwfqBounds, walked. -/
namespace Go.Proofs.YtkmlkpfabkhleaaGreat
open Go.RowKit
open SP
section
variable {W w w' : World} {R : List SP} {b cb tb N : Nat}

def BoRel (b cb tb : Nat) (w : World) (v : Value) (wr : World) : Prop :=
  ∃ (i : Nat) (s : Iw) (O : List Tg) (P : SP), v = .int .i64 (i : Int) ∧ i ≤ 60 ∧ IwS i s O ∧
    Own wr (Ch w cb (0 + 100 * i) :: old w :: IwR b 1099511627776 s :: IwT P tb 1099511627776 s.R O s.m :: P :: []) ∧ Calm w wr
def lagT (m : List (Int × Acc)) (t : Tg) : Int := (accO m t.f).1
def BlRel (m : List (Int × Acc)) (L : List Tg) (P : List SP) (W : World) (v10 v11 : Value) (wr : World) : Prop :=
  ∃ k : Nat, v11 = .int .i64 (k : Int) ∧ k ≤ L.length ∧ v10 = .int .i64 (sumI ((L.take k).map (lagT m))) ∧ ab (sumI ((L.take k).map (lagT m))) ≤ 1099511627776 * (k : Int) ∧ Own wr P ∧ Calm W wr
theorem lag_snoc {m : List (Int × Acc)} {L : List Tg} {k : Nat} {t : Tg} (h : L[k]? = some t) : sumI ((L.take (k + 1)).map (lagT m)) = sumI ((L.take k).map (lagT m)) + lagT m t := by
  rw [List.take_add_one, h, List.map_append, sumI_append]
  show _ + (lagT m t + 0) = _
  omega
set_option maxHeartbeats 6400000 in
set_option maxRecDepth 100000 in
theorem iwfqBounds_walk (a0 : Option Addr) (len0 cap0 : Nat) (z0 : List Int) (w : World) (w0 : IsRow .i64 w a0 len0 cap0 z0) :
    Calls Tryz.prog 6 #[.slice a0 len0 cap0] w fun e w' => e = .returned (.bool true) ∧ Below w.heap.size w w' := by
  have oW := Own.start w
  go_enter Tryz.func6, Tryz.ntmps6
  go_wp2_with fail
  refine (genNew_spec a0 len0 cap0 z0 w0 oW).mono ?_
  rintro e1 v1 ⟨cb, rfl, o1, k1⟩
  go_wp2_with fail
  refine (iwNew_spec 1099511627776 (by decide) (by decide) o1).mono ?_
  rintro e2 v2 ⟨b, rfl, o2, k2⟩
  go_wp2_with fail
  refine (refNewI_spec (P := SP.pu True) 1099511627776 (by decide) (by decide) (S := iw0.R) rfl rfl rfl (Own.pu.2 ⟨trivial, o2⟩)).mono ?_
  rintro e3 v3 ⟨tb, rfl, o3, k3⟩
  have hT : BoRel b cb tb w (.int .i64 0) v3 := ⟨0, iw0, [], SP.pu True, rfl, by omega, IwS.start, (o3.re [3, 4, 2]), k1.trans (k2.trans k3)⟩
  clear o1 o2 o3 k1 k2 k3 oW
  go_wp2
  go_loopw [8] (fun v wr => BoRel b cb tb w v wr) (fun v _ => 60 - (Lib.intOf v).toNat)
  case atStart => exact hT
  case round =>
    clear hT
    obtain ⟨i, s, O, P, rfl, hi, hI, oR, kR⟩ := hrel
    by_cases hlt : i < 60
    · go_wp2_with fail
      refine (act_spec hI (by omega) (by omega) oR).mono ?_
      rintro e4 v4 ⟨s', O', P', hI', rfl, o4, k4⟩
      go_wp2_with fail
      refine (iwAcc_spec hI'.rel.ok.ok.len (o4.re [2])).mono ?_
      rintro e5 v5 ⟨aa, ca, rfl, o5, k5⟩
      have hlen := hI'.rel.ok.ok.len
      have hT : BlRel s'.m s'.R.L (slc 54 10 aa s'.R.L.length ca (flat (accCI s'.m) s'.R.L) :: IwR b 1099511627776 s' :: Ch w cb (0 + 100 * i + 100) :: old w :: IwT P' tb 1099511627776 s'.R O' s'.m :: P' :: []) w (.int .i64 0) (.int .i64 0) v5 := ⟨0, rfl, Nat.zero_le _, rfl, by show ab 0 ≤ _; simp [ab], o5, (kR.trans (k4.trans k5))⟩
      have HI := Lib.hid hI'
      obtain ⟨n, hn⟩ : ∃ n, s'.R.L.length = n := ⟨_, rfl⟩
      have HN := Lib.hid hn
      rw [hn] at hT hlen ⊢
      clear o4 o5 k4 k5 kR oR hI hI' hn
      go_wp2
      go_loopw [10, 11] (fun v10 v11 wr => BlRel s'.m s'.R.L (slc 54 10 aa n ca (flat (accCI s'.m) s'.R.L) :: IwR b 1099511627776 s' :: Ch w cb (0 + 100 * i + 100) :: old w :: IwT P' tb 1099511627776 s'.R O' s'.m :: P' :: []) w v10 v11 wr) (fun _ v _ => n - (Lib.intOf v).toNat)
      case atStart => exact hT
      case round =>
        clear hT
        obtain ⟨k, rfl, hk, rfl, hab, oR, kR⟩ := hrel
        by_cases hltk : k < n
        · obtain ⟨t, ht⟩ : ∃ t, s'.R.L[k]? = some t := ⟨_, List.getElem?_eq_getElem (by have := HN.out; omega)⟩
          obtain ⟨g, l, x, y, hA, rfl, d0, d1, d2, d3, d4, d5, d6, d7, d8, d9⟩ := acc_cells oR ht (by omega)
          have hac := HI.out.acc t.f
          have hsn := lag_snoc (m := s'.m) ht
          have hlt2 : lagT s'.m t = l := by unfold lagT; rw [← hA]
          rw [hlt2] at hsn
          unfold accIn at hac
          rw [← hA] at hac
          dsimp only at hac
          obtain ⟨Sm, hSm⟩ : ∃ Sm, sumI ((s'.R.L.take k).map (lagT s'.m)) = Sm := ⟨_, rfl⟩
          rw [hSm] at hsn hab ⊢
          have hk32 : k ≤ 32 := by omega
          have wA := IntWalk.i64_in (Sm + l) (by unfold ab at hab; omega)
          have wB := IntWalk.i64_in (-y) (by omega)
          have f1 : decide (x < l) = false := decide_eq_false (by omega)
          have f2 : decide (l < -y) = false := decide_eq_false (by omega)
          have hab2 : ab (Sm + l) ≤ 1099511627776 * ((k + 1 : Nat) : Int) := by unfold ab at hab ⊢; push_cast; omega
          have HSN := Lib.hid hsn
          have HAB := Lib.hid hab2
          clear hA hac hsn hlt2 hSm hab hab2 ht d0 d1 d3 d4 d5 d6 d7
          go_wp2
          go_quiet (fail)
          go_wp2
          go_roundw
          case rel => exact ⟨k + 1, by go_num, by have := HN.out; omega, by rw [HSN.out], by rw [HSN.out]; exact HAB.out, oR.drewN _, kR.trans ⟨rfl, rfl, rfl⟩⟩
          case measure => simp [Lib.intOf]; omega
        · have hkn : k = n := by have := HN.out; omega
          have hz : sumI ((s'.R.L.take k).map (lagT s'.m)) = 0 := by
            rw [List.take_of_length_le (by rw [HN.out, hkn]; exact Nat.le_refl _)]
            exact HI.out.sum
          rw [hz]
          clear hz hab hkn
          have hsm := iwSum_spec HI.out (oR.re [1])
          go_wp2_with fail
          refine hsm.mono ?_
          rintro e6 v6 ⟨rfl, o6, k6⟩
          clear hsm
          have oF : Own v6 (Ch w cb (0 + 100 * (i + 1)) :: old w :: IwR b 1099511627776 s' :: IwT P' tb 1099511627776 s'.R O' s'.m :: P' :: []) := by
            rw [show 0 + 100 * (i + 1) = 0 + 100 * i + 100 by omega]
            exact (o6.re [1] 1).re [1, 2, 0]
          go_wp2
          go_roundw
          case rel => exact ⟨i + 1, s', O', P', by go_num, by omega, HI.out, oF, kR.trans k6⟩
          case measure => simp [Lib.intOf]; omega
    · go_wp2_with fail
      refine (awake25_spec oR).mono ?_
      rintro e8 v8 ⟨rfl, o8, k8⟩
      go_wp2
      go_ret
      exact ⟨rfl, below_ofI (o8.re [1]) (kR.trans k8)⟩
end
end Go.Proofs.YtkmlkpfabkhleaaGreat

/- IwfqScript, walked. -/
namespace Go.Proofs.YtkmlkpfabkhleaaGreat
open Go.RowKit
open SP
section
variable {W w w' : World} {R : List SP} {b cb tb N : Nat} {reb : Int} {P : SP} {O : List Tg} {s : Iw}

theorem sfqNewI_bad (r : Int) (h : r < 1 ∨ 1099511627776 < r) (w : World) : Calls Tryz.prog 53 #[.int .i64 r] w (IsRet (.tuple #[.pointer none, .int .i64 1]) w) := by
  by_cases h1 : r < 1
  · clear h
    go_enter Tryz.func53, Tryz.ntmps53
    go_wp2
    go_ret2
    exact ⟨rfl, rfl⟩
  · have h2 : 1099511627776 < r := by omega
    clear h
    go_enter Tryz.func53, Tryz.ntmps53
    go_wp2
    go_ret2
    exact ⟨rfl, rfl⟩
theorem ref12NewI_bad (r : Int) (h : r < 1 ∨ 1099511627776 < r) (w : World) : Calls Tryz.prog 56 #[.int .i64 r] w (IsRet (.tuple #[.pointer none, .int .i64 1]) w) := by
  by_cases h1 : r < 1
  · clear h
    go_enter Tryz.func56, Tryz.ntmps56
    go_wp2
    go_ret2
    exact ⟨rfl, rfl⟩
  · have h2 : 1099511627776 < r := by omega
    clear h
    go_enter Tryz.func56, Tryz.ntmps56
    go_wp2
    go_ret2
    exact ⟨rfl, rfl⟩
def newErrI (r : Int) : Int := if r < 1 ∨ 1099511627776 < r then 1 else 0
theorem newI_prog (r : Int) (o : Own w R) : Calls Tryz.prog 26 #[.int .i64 r] w fun e w' => ∃ v : Value, e = .returned (.tuple #[v, .int .i64 (newErrI r)]) ∧ Own w' R ∧ Calm w w' := by
  by_cases h : r < 1 ∨ 1099511627776 < r
  · rw [newErrI, if_pos h]
    have hb := sfqNewI_bad r h
    clear h
    go_enter Tryz.func26, Tryz.ntmps26
    go_wp2_with fail
    refine (hb _).mono ?_
    rintro e1 w1 ⟨rfl, rfl⟩
    go_wp2
    go_ret2
    exact ⟨_, rfl, o, Calm.refl _⟩
  · rw [newErrI, if_neg h]
    refine (iwNew_spec r (by omega) (by omega) o).mono ?_
    rintro e w' ⟨b, rfl, o1, k1⟩
    exact ⟨_, rfl, o1.drop, k1⟩
theorem newI_ref (r : Int) (o : Own w R) : Calls Tryz.prog 27 #[.int .i64 r] w fun e w' => ∃ v : Value, e = .returned (.tuple #[v, .int .i64 (newErrI r)]) ∧ Own w' R ∧ Calm w w' := by
  by_cases h : r < 1 ∨ 1099511627776 < r
  · rw [newErrI, if_pos h]
    have hb := ref12NewI_bad r h
    clear h
    go_enter Tryz.func27, Tryz.ntmps27
    go_wp2_with fail
    refine (hb _).mono ?_
    rintro e1 w1 ⟨rfl, rfl⟩
    go_wp2
    go_ret2
    exact ⟨_, rfl, o, Calm.refl _⟩
  · rw [newErrI, if_neg h]
    refine (refNewI_spec (P := SP.pu True) r (by omega) (by omega) (S := iw0.R) rfl rfl rfl (Own.pu.2 ⟨trivial, o⟩)).mono ?_
    rintro e w' ⟨b, rfl, o1, k1⟩
    exact ⟨_, rfl, (Own.pu.1 o1.drop).2, k1⟩

def ScRel (b cb tb : Nat) (reb : Int) (w : World) (v : Value) (wr : World) : Prop :=
  ∃ (i : Nat) (s : Iw) (O : List Tg) (P : SP), v = .int .i64 (i : Int) ∧ i ≤ 50 ∧ IwS i s O ∧
    Own wr (Ch w cb (1 + 100 * i) :: old w :: IwR b reb s :: IwT P tb reb s.R O s.m :: P :: []) ∧ Calm w wr
set_option maxHeartbeats 6400000 in
set_option maxRecDepth 100000 in
theorem iwfqScript_walk (a0 : Option Addr) (len0 cap0 : Nat) (z0 : List Int) (x y rr : Int) (w : World) (w0 : IsRow .i64 w a0 len0 cap0 z0) (_ : (Lit.int .i64 x).wf = true) (_ : (Lit.int .i64 y).wf = true) (_ : (Lit.int .i64 rr).wf = true) :
    Calls Tryz.prog 5 #[.slice a0 len0 cap0, .int .i64 x, .int .i64 y, .int .i64 rr] w fun e w' => e = .returned (.bool true) ∧ Below w.heap.size w w' := by
  have oW := Own.start w
  go_enter Tryz.func5, Tryz.ntmps5
  go_wp2_with fail
  refine (genNew_spec a0 len0 cap0 z0 w0 oW).mono ?_
  rintro e1 v1 ⟨cb, rfl, o1, k1⟩
  have oA := o1.alloc (.cells #[.int .i64 1099511627776, .int .i64 1, .int .i64 536870912] 2)
  go_wp2_with fail
  refine (next_spec w cb 0 3 _ _ (by omega) (by omega) (by omega) (oA.re [1, 2])).mono ?_
  rintro e2 v2 ⟨z, hz0, hz1, rfl, o2, k2⟩
  obtain ⟨j, rfl⟩ : ∃ j : Nat, z = (j : Int) := ⟨z.toNat, by omega⟩
  have hj : j < 3 := by omega
  obtain ⟨reb, hu, hr1, hr2⟩ : ∃ u, ([1099511627776, 1, 536870912] : List Int)[j]? = some u ∧ 1 ≤ u ∧ u ≤ 1099511627776 := by
    have h3 : j = 0 ∨ j = 1 ∨ j = 2 := by omega
    rcases h3 with rfl | rfl | rfl
    · exact ⟨_, rfl, by decide, by decide⟩
    · exact ⟨_, rfl, by decide, by decide⟩
    · exact ⟨_, rfl, by decide, by decide⟩
  have c := Own.cell (T := 2) (vs := ([1099511627776, 1, 536870912] : List Int).map (Value.int .i64)) (v := .int .i64 reb) (o2.up 2) j (by rw [List.getElem?_map, hu]; rfl)
  have hjz : (j : Int) < 3 := by omega
  clear hu
  go_wp2_with fail
  refine (iwNew_spec reb hr1 hr2 o2).mono ?_
  rintro e3 v3 ⟨b, rfl, o3, k3⟩
  go_wp2_with fail
  refine (refNewI_spec (P := SP.pu True) reb hr1 hr2 (S := iw0.R) rfl rfl rfl (Own.pu.2 ⟨trivial, o3⟩)).mono ?_
  rintro e4 v4 ⟨tb, rfl, o4, k4⟩
  have K4 := (qcalm_alloc (x := .cells #[.int .i64 1099511627776, .int .i64 1, .int .i64 536870912] 2) k1).trans (k2.trans (k3.trans k4))
  have hT : ScRel b cb tb reb w (.int .i64 0) v4 := ⟨0, iw0, [], SP.pu True, rfl, by omega, IwS.start, ((o4.re [5] 1).re [3, 4, 2]), K4⟩
  clear o1 o2 o3 o4 k1 k2 k3 k4 oW oA K4 c hj hjz hz0 hz1
  go_wp2
  go_loopw [15] (fun v wr => ScRel b cb tb reb w v wr) (fun v _ => 50 - (Lib.intOf v).toNat)
  case atStart => exact hT
  case round =>
    clear hT
    obtain ⟨i, s, O, P, rfl, hi, hI, oR, kR⟩ := hrel
    by_cases hlt : i < 50
    · have hact := act_spec (reb := reb) hI (by omega) (by omega) oR.drew
      clear oR
      go_upto_region 10 with fail
      go_region_law (first
        | (go_simp; go_at_call 28; (with_reducible refine hact.mono ?_); rintro e5 w5 ⟨s', O', P', hI', rfl, o5, k5⟩; have hacc := iwAcc_spec hI'.rel.ok.ok.len (o5.re [2]))
        | (go_simp; go_at_call 29; (with_reducible refine hacc.mono ?_); rintro e6 w6 ⟨a6, c6, rfl, o6, k6⟩; have hacr := refAccI_spec hI'.rel.ok.ok (o6.re [4, 5]))
        | (go_simp; go_at_call 30; (with_reducible refine hacr.mono ?_); rintro e7 w7 ⟨a7, c7, rfl, o7, k7⟩; have heq := equalA_spec (n := s'.R.L.length) (c1 := c6) (c2 := c7) rfl (by have := hI'.rel.ok.ok.len; omega) (o7.re [3, 0]))
        | (go_simp; go_at_call 19; (with_reducible refine heq.mono ?_); rintro e8 w8 ⟨rfl, o8, k8⟩; obtain ⟨pr, aB, cB, oT⟩ := IwT.iff.1 (o8.up 2); obtain ⟨a1, c1', a2, c2, hpu, o9⟩ := RefT.iff.1 (oT.up 1); have q0 := oT.cell 0; have q4 := o9.cell 4; have hrb := iwRebased_spec (b := b) (reb := reb) (s := s') (o8.re [4]))
        | (go_simp; go_at_call 31; (with_reducible refine hrb.mono ?_); rintro e10 w10 ⟨rfl, rfl⟩))
      all_goals go_wp2
      all_goals go_roundw
      all_goals first
        | (show _ < _; simp [Lib.intOf]; omega)
        | (refine ⟨i + 1, s', O', P', by go_num, by omega, hI', ?_, kR.trans ((qcalm_drew (Calm.refl wr)).trans (k5.trans (k6.trans (k7.trans k8))))⟩; rw [show 1 + 100 * (i + 1) = 1 + 100 * i + 100 by omega]; exact (o8.re [0, 1] 2).re [3, 4, 2])
    · obtain ⟨O2, hI2, hR2⟩ := joinI_both hI (by omega) reb 7 1 x y
      have hp2 := fun {w : World} {R : List SP} (o : Own w (IwR b reb s :: R)) => iwJoin_spec 7 1 x y o
      obtain ⟨⟨E2, s2⟩, hJ2⟩ : ∃ J, joinI s 7 1 x y = J := ⟨_, rfl⟩
      rw [hJ2] at hI2 hR2
      simp only [hJ2] at hp2
      clear hJ2
      obtain ⟨hI3, hR3⟩ := setBI_both hI2 reb 0 x y
      obtain ⟨⟨E3, m3⟩, hJ3⟩ : ∃ J, setBI s2.m s2.R.L 0 x y = J := ⟨_, rfl⟩
      have hp3 : ∀ (w : World) (R : List SP), Own w (IwR b reb s2 :: R) → Calls Tryz.prog 34 #[.pointer (some ⟨b, 0, none⟩), .int .i64 0, .int .i64 x, .int .i64 y] w (Ret (.int .i64 E3) (IwR b reb ⟨s2.R, m3⟩ :: R) w) := fun w R o => by
        have := iwSetB_spec 0 x y hI2 o
        rw [hJ3] at this
        exact this
      rw [hJ3] at hI3 hR3
      clear hJ3
      dsimp only at hp2 hR2 hR3
      go_wp2_with fail
      refine (newI_prog rr oR).mono ?_
      rintro e5 w5 ⟨va, rfl, o5, k5⟩
      go_wp2_with fail
      refine (newI_ref rr o5).mono ?_
      rintro e6 w6 ⟨vb, rfl, o6, k6⟩
      obtain ⟨ne, hne⟩ : ∃ ne, newErrI rr = ne := ⟨_, rfl⟩
      rw [hne]
      clear hne
      have h7 := hp2 (o6.re [2])
      clear hp2
      go_wp2_with fail
      refine h7.mono ?_
      rintro e7 w7 ⟨rfl, o7, k7⟩
      have h8 := hR2 P tb w7 _ (o7.re [3, 4])
      clear h7 hR2
      go_wp2_with fail
      refine h8.mono ?_
      rintro e8 w8 ⟨P2, rfl, o8, k8⟩
      have h9 := hp3 _ _ (o8.re [2])
      clear h8 hp3
      go_wp2_with fail
      refine h9.mono ?_
      rintro e9 w9 ⟨rfl, o9, k9⟩
      have h10 := hR3 P2 tb w9 _ (o9.re [1, 2])
      clear h9 hR3
      go_wp2_with fail
      refine h10.mono ?_
      rintro e10 w10 ⟨P3, rfl, o10, k10⟩
      clear h10
      go_wp2_with fail
      refine (awake25_spec o10).mono ?_
      rintro e11 w11 ⟨rfl, o11, k11⟩
      go_wp2
      go_ret
      exact ⟨rfl, below_ofI (o11.re [4]) (kR.trans (k5.trans (k6.trans (k7.trans (k8.trans (k9.trans (k10.trans k11)))))))⟩
end
end Go.Proofs.YtkmlkpfabkhleaaGreat
