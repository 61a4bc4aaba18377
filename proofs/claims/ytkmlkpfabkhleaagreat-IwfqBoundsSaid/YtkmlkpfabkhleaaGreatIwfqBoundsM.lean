/- Texts that the law rests on, put together by a program. -/
import Derived.Test.YtkmlkpfabkhleaaGreatIwfqBoundsL
/- IwfqBounds, walked. -/
namespace Go.Proofs.YtkmlkpfabkhleaaGreat
open Go.RowKit
open SP
section
variable {W w w' : World} {R : List SP} {b cb tb N : Nat}

def BoRel (b cb tb : Nat) (w : World) (v : Value) (wr : World) : Prop :=
  ∃ (i : Nat) (s : Iw) (O : List Tg) (P : SP), v = .int .i64 (i : Int) ∧ i ≤ 60 ∧ IwS i s O ∧
    Own wr (Ch w cb (0 + 100 * i) :: old w :: IwR b 1099511627776 s :: IwT P tb 1099511627776 s.R O s.m :: P :: []) ∧ Calm w wr
def lagT (m : List (Int × Acc)) (t : Tg) : Int := (accO m t.f).1
def BlRel (m : List (Int × Acc)) (L : List Tg) (P : List SP) (W : World) (v10 v11 : Value) (wr : World) : Prop :=
  ∃ k : Nat, v11 = .int .i64 (k : Int) ∧ k ≤ L.length ∧ v10 = .int .i64 (sumI ((L.take k).map (lagT m))) ∧ ab (sumI ((L.take k).map (lagT m))) ≤ 1099511627776 * (k : Int) ∧ Own wr P ∧ Calm W wr
theorem lag_snoc {m : List (Int × Acc)} {L : List Tg} {k : Nat} {t : Tg} (h : L[k]? = some t) : sumI ((L.take (k + 1)).map (lagT m)) = sumI ((L.take k).map (lagT m)) + lagT m t := by
  rw [List.take_add_one, h, List.map_append, sumI_append]
  show _ + (lagT m t + 0) = _
  omega
set_option maxHeartbeats 6400000 in
set_option maxRecDepth 100000 in
theorem iwfqBounds_walk (a0 : Option Addr) (len0 cap0 : Nat) (z0 : List Int) (w : World) (w0 : IsRow .i64 w a0 len0 cap0 z0) :
    Calls Tryz.prog 6 #[.slice a0 len0 cap0] w fun e w' => e = .returned (.bool true) ∧ Below w.heap.size w w' := by
  have oW := Own.start w
  go_enter Tryz.func6, Tryz.ntmps6
  go_wp2_with fail
  refine (genNew_spec a0 len0 cap0 z0 w0 oW).mono ?_
  rintro e1 v1 ⟨cb, rfl, o1, k1⟩
  go_wp2_with fail
  refine (iwNew_spec 1099511627776 (by decide) (by decide) o1).mono ?_
  rintro e2 v2 ⟨b, rfl, o2, k2⟩
  go_wp2_with fail
  refine (refNewI_spec (P := SP.pu True) 1099511627776 (by decide) (by decide) (S := iw0.R) rfl rfl rfl (Own.pu.2 ⟨trivial, o2⟩)).mono ?_
  rintro e3 v3 ⟨tb, rfl, o3, k3⟩
  have hT : BoRel b cb tb w (.int .i64 0) v3 := ⟨0, iw0, [], SP.pu True, rfl, by omega, IwS.start, (o3.re [3, 4, 2]), k1.trans (k2.trans k3)⟩
  clear o1 o2 o3 k1 k2 k3 oW
  go_wp2
  go_loopw [8] (fun v wr => BoRel b cb tb w v wr) (fun v _ => 60 - (Lib.intOf v).toNat)
  case atStart => exact hT
  case round =>
    clear hT
    obtain ⟨i, s, O, P, rfl, hi, hI, oR, kR⟩ := hrel
    by_cases hlt : i < 60
    · go_wp2_with fail
      refine (act_spec hI (by omega) (by omega) oR).mono ?_
      rintro e4 v4 ⟨s', O', P', hI', rfl, o4, k4⟩
      go_wp2_with fail
      refine (iwAcc_spec hI'.rel.ok.ok.len (o4.re [2])).mono ?_
      rintro e5 v5 ⟨aa, ca, rfl, o5, k5⟩
      have hlen := hI'.rel.ok.ok.len
      have hT : BlRel s'.m s'.R.L (slc 54 10 aa s'.R.L.length ca (flat (accCI s'.m) s'.R.L) :: IwR b 1099511627776 s' :: Ch w cb (0 + 100 * i + 100) :: old w :: IwT P' tb 1099511627776 s'.R O' s'.m :: P' :: []) w (.int .i64 0) (.int .i64 0) v5 := ⟨0, rfl, Nat.zero_le _, rfl, by show ab 0 ≤ _; simp [ab], o5, (kR.trans (k4.trans k5))⟩
      have HI := Lib.hid hI'
      obtain ⟨n, hn⟩ : ∃ n, s'.R.L.length = n := ⟨_, rfl⟩
      have HN := Lib.hid hn
      rw [hn] at hT hlen ⊢
      clear o4 o5 k4 k5 kR oR hI hI' hn
      go_wp2
      go_loopw [10, 11] (fun v10 v11 wr => BlRel s'.m s'.R.L (slc 54 10 aa n ca (flat (accCI s'.m) s'.R.L) :: IwR b 1099511627776 s' :: Ch w cb (0 + 100 * i + 100) :: old w :: IwT P' tb 1099511627776 s'.R O' s'.m :: P' :: []) w v10 v11 wr) (fun _ v _ => n - (Lib.intOf v).toNat)
      case atStart => exact hT
      case round =>
        clear hT
        obtain ⟨k, rfl, hk, rfl, hab, oR, kR⟩ := hrel
        by_cases hltk : k < n
        · obtain ⟨t, ht⟩ : ∃ t, s'.R.L[k]? = some t := ⟨_, List.getElem?_eq_getElem (by have := HN.out; omega)⟩
          obtain ⟨g, l, x, y, hA, rfl, d0, d1, d2, d3, d4, d5, d6, d7, d8, d9⟩ := acc_cells oR ht (by omega)
          have hac := HI.out.acc t.f
          have hsn := lag_snoc (m := s'.m) ht
          have hlt2 : lagT s'.m t = l := by unfold lagT; rw [← hA]
          rw [hlt2] at hsn
          unfold accIn at hac
          rw [← hA] at hac
          dsimp only at hac
          obtain ⟨Sm, hSm⟩ : ∃ Sm, sumI ((s'.R.L.take k).map (lagT s'.m)) = Sm := ⟨_, rfl⟩
          rw [hSm] at hsn hab ⊢
          have hk32 : k ≤ 32 := by omega
          have wA := IntWalk.i64_in (Sm + l) (by unfold ab at hab; omega)
          have wB := IntWalk.i64_in (-y) (by omega)
          have f1 : decide (x < l) = false := decide_eq_false (by omega)
          have f2 : decide (l < -y) = false := decide_eq_false (by omega)
          have hab2 : ab (Sm + l) ≤ 1099511627776 * ((k + 1 : Nat) : Int) := by unfold ab at hab ⊢; push_cast; omega
          have HSN := Lib.hid hsn
          have HAB := Lib.hid hab2
          clear hA hac hsn hlt2 hSm hab hab2 ht d0 d1 d3 d4 d5 d6 d7
          go_wp2
          go_quiet (fail)
          go_wp2
          go_roundw
          case rel => exact ⟨k + 1, by go_num, by have := HN.out; omega, by rw [HSN.out], by rw [HSN.out]; exact HAB.out, oR.drewN _, kR.trans ⟨rfl, rfl, rfl⟩⟩
          case measure => simp [Lib.intOf]; omega
        · have hkn : k = n := by have := HN.out; omega
          have hz : sumI ((s'.R.L.take k).map (lagT s'.m)) = 0 := by
            rw [List.take_of_length_le (by rw [HN.out, hkn]; exact Nat.le_refl _)]
            exact HI.out.sum
          rw [hz]
          clear hz hab hkn
          have hsm := iwSum_spec HI.out (oR.re [1])
          go_wp2_with fail
          refine hsm.mono ?_
          rintro e6 v6 ⟨rfl, o6, k6⟩
          clear hsm
          have oF : Own v6 (Ch w cb (0 + 100 * (i + 1)) :: old w :: IwR b 1099511627776 s' :: IwT P' tb 1099511627776 s'.R O' s'.m :: P' :: []) := by
            rw [show 0 + 100 * (i + 1) = 0 + 100 * i + 100 by omega]
            exact (o6.re [1] 1).re [1, 2, 0]
          go_wp2
          go_roundw
          case rel => exact ⟨i + 1, s', O', P', by go_num, by omega, HI.out, oF, kR.trans k6⟩
          case measure => simp [Lib.intOf]; omega
    · go_wp2_with fail
      refine (awake25_spec oR).mono ?_
      rintro e8 v8 ⟨rfl, o8, k8⟩
      go_wp2
      go_ret
      exact ⟨rfl, below_ofI (o8.re [1]) (kR.trans k8)⟩
end
end Go.Proofs.YtkmlkpfabkhleaaGreat
