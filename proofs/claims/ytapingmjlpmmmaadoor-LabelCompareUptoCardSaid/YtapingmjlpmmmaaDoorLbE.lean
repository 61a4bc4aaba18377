/- Patterns: the program's match. -/
import Derived.Test.YtapingmjlpmmmaaDoorLbD
namespace Go.Proofs.YtapingmjlpmmmaaDoor
open Go.RowKit
open Go.Shelf
open SP
section
variable {W w w' : World} {R : List SP}

theorem Gr.bounds {P S : List Nat} {z : Int} {f i k : Nat} (g : Gr P S z f i k) : -1 ≤ z ∧ z < i ∧ i ≤ P.length ∧ k ≤ S.length ∧ f ≤ k := by
  cases g with
  | free _ _ hi hk h => omega
  | star z f _ _ l hl hi hk hz hf hp hs h => omega

def MtRel (P S : List Nat) (pa sa : Option Addr) (pc sc : Nat) (R : List SP) (w : World) (v5 v6 v7 v8 : Value) (wr : World) : Prop :=
  ∃ (z : Int) (f i k : Nat), v5 = .int .i64 z ∧ v6 = .int .i64 (f : Int) ∧ v7 = .int .i64 (i : Int) ∧ v8 = .int .i64 (k : Int) ∧ Gr P S z f i k ∧
    Own wr (slc 21 1 sa S.length sc (runs S) :: slc 21 1 pa P.length pc (runs P) :: R) ∧ Calm w wr
def MtRel2 (P S : List Nat) (pa sa : Option Addr) (pc sc : Nat) (R : List SP) (w : World) (v7 : Value) (wr : World) : Prop :=
  ∃ (i : Nat), v7 = .int .i64 (i : Int) ∧ i ≤ P.length ∧ lk P S = ((P.drop i).all fun c => decide (c = 42)) ∧
    Own wr (slc 21 1 sa S.length sc (runs S) :: slc 21 1 pa P.length pc (runs P) :: R) ∧ Calm w wr
def mtMeas (N M : Nat) (z : Int) (f i : Nat) : Nat := (N - (z + 1).toNat) + (M - f) * (N + 1) + (N - i)
theorem meas_star {N M : Nat} {z : Int} {f i k : Nat} (_ : -1 ≤ z) (h1 : z < i) (h2 : i < N) (h3 : f ≤ k) : mtMeas N M (i : Int) k (i + 1) < mtMeas N M z f i := by
  unfold mtMeas
  have := Nat.mul_le_mul_right (N + 1) (show M - k ≤ M - f by omega)
  omega
theorem meas_same {N M : Nat} {z : Int} {f i : Nat} (h2 : i < N) : mtMeas N M z f (i + 1) < mtMeas N M z f i := by
  unfold mtMeas
  omega
theorem meas_slip {N M : Nat} {z : Nat} {f i : Nat} (h1 : f < M) : mtMeas N M z (f + 1) (z + 1) < mtMeas N M z f i := by
  unfold mtMeas
  have : (M - f) * (N + 1) = (M - (f + 1)) * (N + 1) + (N + 1) := by
    rw [← Nat.succ_mul]; congr 1; omega
  omega

set_option maxHeartbeats 6400000 in
set_option maxRecDepth 100000 in
theorem match_spec (P S : List Nat) (pa sa : Option Addr) (pc sc : Nat) (hP : P.length ≤ 2000000) (hS : S.length ≤ 2000000) (o : Own w (slc 21 1 sa S.length sc (runs S) :: slc 21 1 pa P.length pc (runs P) :: R)) :
    Calls Tryd.prog 26 #[.slice pa P.length pc, .slice sa S.length sc] w (Ret (.bool (lk P S)) R w) := by
  go_enter Tryd.func26, Tryd.ntmps26
  go_wp2
  go_loopw [5, 6, 7, 8] (fun v5 v6 v7 v8 wr => MtRel P S pa sa pc sc R w v5 v6 v7 v8 wr) (fun v5 v6 v7 _ _ => mtMeas P.length S.length (intOf v5) (intOf v6).toNat (intOf v7).toNat)
  case atStart => exact ⟨-1, 0, 0, 0, rfl, rfl, rfl, rfl, Gr.start P S, o, Calm.refl w⟩
  case round =>
    obtain ⟨z, f, i, k, rfl, rfl, rfl, rfl, hg, oR, kR⟩ := hrel
    obtain ⟨b1, b2, b3, b4, b5⟩ := hg.bounds
    have G := Lib.hid hg
    clear hg
    by_cases hk : k < S.length
    · obtain ⟨x, hx⟩ : ∃ x, S[k]? = some x := ⟨_, List.getElem?_eq_getElem hk⟩
      obtain ⟨gs, rfl, hcs, _, _⟩ := oR.slc_cell (by omega)
      have d1 := hcs k _ (runs_get hx)
      clear hcs
      by_cases hi : i < P.length
      · obtain ⟨c, hc⟩ : ∃ c, P[i]? = some c := ⟨_, List.getElem?_eq_getElem hi⟩
        obtain ⟨gp, rfl, hcp, _, _⟩ := (oR.up 1).slc_cell (by omega)
        have d2 := hcp i _ (runs_get hc)
        clear hcp
        by_cases h42 : c = 42
        · subst h42
          go_wp2
          go_roundw
          case rel => exact ⟨(i : Int), k, i + 1, k, rfl, rfl, by go_num, rfl, G.out.atStar hc, oR, kR⟩
          case measure => exact meas_star b1 b2 hi b5
        · have e1 : ((c : Int) == 42) = false := beq_eq_false_iff_ne.2 (by omega)
          by_cases hcx : c = x
          · subst hcx
            go_wp2
            go_quiet (fail)
            go_wp2
            go_roundw
            case rel => exact ⟨z, f, i + 1, k + 1, rfl, rfl, by go_num, by go_num, G.out.atSame hc h42 hx, oR.drewN _, kR.dn _⟩
            case measure => exact meas_same hi
          · have e2 : ((c : Int) == (x : Int)) = false := beq_eq_false_iff_ne.2 (by omega)
            have e3 : (c == x) = false := beq_eq_false_iff_ne.2 hcx
            by_cases hz : 0 ≤ z
            · obtain ⟨n, rfl⟩ : ∃ n : Nat, z = n := ⟨z.toNat, by omega⟩
              go_wp2
              go_quiet (fail)
              go_wp2
              go_roundw
              case rel => exact ⟨(n : Int), f + 1, n + 1, f + 1, rfl, by go_num, by go_num, by go_num, G.out.slip hx (fun c' h => by rw [hc] at h; cases h; exact ⟨h42, hcx⟩), oR.drewN _, kR.dn _⟩
              case measure => exact meas_slip (by omega)
            · have hf := G.out.fail (by omega) hx (fun c' h => by rw [hc] at h; cases h; exact ⟨h42, hcx⟩)
              have HF := Lib.hid hf
              clear hf
              have e4 : decide (0 ≤ z) = false := decide_eq_false hz
              go_wp2
              go_quiet (fail)
              go_wp2
              go_ret
              exact ⟨by rw [HF.out]; rfl, (oR.drop.drop).drewN _, kR.dn _⟩
      · have e5 : decide (i < P.length) = false := decide_eq_false hi
        have hnone : P[i]? = none := List.getElem?_eq_none (by omega)
        by_cases hz : 0 ≤ z
        · obtain ⟨n, rfl⟩ : ∃ n : Nat, z = n := ⟨z.toNat, by omega⟩
          have HNo := Lib.hid hnone
          clear hnone
          go_wp2
          go_quiet (fail)
          go_wp2
          go_roundw
          case rel => exact ⟨(n : Int), f + 1, n + 1, f + 1, rfl, by go_num, by go_num, by go_num, G.out.slip hx (fun c' h => by rw [HNo.out] at h; cases h), oR.drewN _, kR.dn _⟩
          case measure => exact meas_slip (by omega)
        · have hf := G.out.fail (by omega) hx (fun c' h => by rw [hnone] at h; cases h)
          have HF := Lib.hid hf
          clear hf hnone
          have e4 : decide (0 ≤ z) = false := decide_eq_false hz
          go_wp2
          go_quiet (fail)
          go_wp2
          go_ret
          exact ⟨by rw [HF.out]; rfl, (oR.drop.drop).drewN _, kR.dn _⟩
    · have he := G.out.ends (by omega)
      have e5 : decide (k < S.length) = false := decide_eq_false hk
      have HE := Lib.hid he
      clear he
      go_wp2
      go_loopw [7] (fun v7 wr2 => MtRel2 P S pa sa pc sc R w v7 wr2) (fun v7 _ => P.length - (intOf v7).toNat)
      case atStart => exact ⟨i, rfl, b3, HE.out, oR, kR⟩
      case round =>
        obtain ⟨j, rfl, hj, hall, o2, k2⟩ := hrel
        have HA := Lib.hid hall
        clear hall
        by_cases hi : j < P.length
        · obtain ⟨c, hc⟩ : ∃ c, P[j]? = some c := ⟨_, List.getElem?_eq_getElem hi⟩
          have hd := drop_get hc
          obtain ⟨gp, rfl, hcp, _, _⟩ := (o2.up 1).slc_cell (by omega)
          have d2 := hcp j _ (runs_get hc)
          clear hcp
          have HD := Lib.hid hd
          clear hd
          by_cases h42 : c = 42
          · subst h42
            go_wp2
            go_roundw
            case rel => exact ⟨j + 1, by go_num, by omega, by rw [HA.out, HD.out, List.all_cons]; simp, o2, k2⟩
            case measure => simp [intOf]; omega
          · have e1 : ((c : Int) == 42) = false := beq_eq_false_iff_ne.2 (by omega)
            have e6 : (j == P.length) = false := beq_eq_false_iff_ne.2 (by omega)
            have e7 : ((j : Int) == (P.length : Int)) = false := beq_eq_false_iff_ne.2 (by omega)
            have hf : lk P S = false := by rw [HA.out, HD.out, List.all_cons, decide_eq_false h42, Bool.false_and]
            have HF := Lib.hid hf
            clear hf
            go_wp2
            go_ret
            exact ⟨by rw [HF.out]; rfl, o2.drop.drop, k2⟩
        · have hje : j = P.length := by omega
          have hf : lk P S = true := by rw [HA.out, List.drop_eq_nil_of_le (by omega)]; rfl
          have HF := Lib.hid hf
          clear hf HA
          subst hje
          go_wp2
          go_ret
          exact ⟨by rw [HF.out]; rfl, o2.drop.drop, k2⟩

/-! ### Patterns -/
theorem Tryd.extraRA : Builder.Extra Tryd.prog Tryd.laysRA_ren where
  sizeBuilder := by kernel_rfl
  liesBuilder := by kernel_rfl
  t5 := Tryd.laysRA.t5
  a5 := Tryd.laysRA.a5
  z5 := Tryd.laysRA.z5
  v5 := Tryd.laysRA.v5
  infoByte := by kernel_rfl
  cellsByte := by kernel_rfl
  sizeByte := by kernel_rfl
  neB5 := by decide
/-- internal/bytealg.MaxLen holds some number. -/
def MaxW (w : World) : Prop := ∃ m : Int, w.cell? ⟨Tryd.laysRA_ren.g 1, 0, none⟩ = some (.int .i64 m)

theorem nameB_nil : nameB [] = false := rfl
theorem pat_short {l : List UInt8} (h : ¬ (1 ≤ l.length ∧ l.length ≤ 24)) : patB l = false := by
  rw [Bool.eq_false_iff]; intro hp
  unfold patB at hp
  simp only [Bool.and_eq_true, decide_eq_true_eq] at hp
  exact h ⟨hp.1.1.2, hp.1.2⟩

set_option maxHeartbeats 3200000 in
set_option maxRecDepth 100000 in
theorem pattern_spec (s : ByteArray) (hs : s.size ≤ 2000000) (hT : TabsW W) (hm : MaxW W) (o : Own w (old W :: R)) :
    Calls Tryd.prog 25 #[.string s] w (Ret (.bool (patB s.data.toList)) (old W :: R) w) := by
  obtain ⟨m, hm⟩ := hm
  have hl : s.data.toList.length = s.size := (Lib.size_eq s).symm
  have hR := Any.strings_ReplaceAll Tryd.laysRA Tryd.extraRA s ⟨#[42]⟩ ⟨#[]⟩ m w (by omega) (o.old_cell hm) (by decide) (by
    have : (⟨#[]⟩ : ByteArray).size = 0 := rfl
    rw [this]; omega)
  have hre : Lib.replaceAll s.data.toList (⟨#[42]⟩ : ByteArray).data.toList (⟨#[]⟩ : ByteArray).data.toList = s.data.toList.filter fun b => decide (b ≠ 42) := replaceAll_filter 42 s.data.toList
  rw [hre] at hR
  clear hre
  have hV := Lib.hid fun (w1 : World) (o1 : Own w1 (old W :: R)) => Any.utf8_ValidString Tryd.laysVS s w1 (by omega) (Own.tabs hT o1)
  have hrest := rest_pat s.data.toList
  obtain ⟨t, ht⟩ : ∃ t : ByteArray, (⟨(s.data.toList.filter fun b => decide (b ≠ 42)).toArray⟩ : ByteArray) = t := ⟨_, rfl⟩
  have htl : t.data.toList = s.data.toList.filter fun b => decide (b ≠ 42) := by rw [← ht]
  have hts : t.size ≤ s.size := by
    rw [Lib.size_eq, htl, ← hl]; exact List.length_filter_le _ _
  rw [ht] at hR
  rw [← htl] at hrest
  have hN := Lib.hid fun (w1 : World) => valid_spec (w := w1) t (by omega)
  have hP : patB s.data.toList = (Lib.validD s.data.toList && decide (1 ≤ s.size) && decide (s.size ≤ 24) && (runesL s.data.toList).all starN) := by unfold patB; rw [hl]
  rw [hP]
  rw [hl] at hrest
  obtain ⟨v, hv⟩ : ∃ v, Lib.validD s.data.toList = v := ⟨_, rfl⟩
  obtain ⟨nb, hnb⟩ : ∃ v, nameB t.data.toList = v := ⟨_, rfl⟩
  obtain ⟨al, hal⟩ : ∃ v, (runesL s.data.toList).all starN = v := ⟨_, rfl⟩
  rw [hv] at hV hrest ⊢
  rw [hnb] at hN hrest
  rw [hal] at hrest ⊢
  have hem : t.toList.isEmpty = decide (t.data.toList = []) := by
    rw [Lib.toList_data]
    cases t.data.toList <;> simp
  obtain ⟨em, hemv⟩ : ∃ v, decide (t.data.toList = []) = v := ⟨_, rfl⟩
  rw [hemv] at hem hrest
  have HR := Lib.hid hrest
  clear hrest hv hnb hal hemv hP htl ht hl
  go_enter Tryd.func25, Tryd.ntmps25
  go_wp2_with fail
  refine hR.mono ?_
  rintro e1 w1 ⟨rfl, hbel⟩
  clear hR
  have o1 := o.keepBelow hbel
  have k1 : Calm w w1 := Calm.ofBelow hbel
  by_cases z1 : 1 ≤ s.size
  · by_cases z2 : s.size ≤ 24
    · have d1 : decide (1 ≤ (s.size : Int)) = true := decide_eq_true (by omega)
      have d2 : decide ((s.size : Int) ≤ 24) = true := decide_eq_true (by omega)
      have HF := Lib.hid (show (v && decide (1 ≤ s.size) && decide (s.size ≤ 24) && al) = (v && al) by rw [decide_eq_true z1, decide_eq_true z2, Bool.and_true, Bool.and_true])
      go_wp2_with fail
      refine (hV.out w1 o1).mono ?_
      rintro e2 w2 ⟨rfl, hbel2⟩
      have o2 := o1.keepBelow hbel2
      have k2 : Calm w w2 := k1.trans (Calm.ofBelow hbel2)
      cases v with
      | false =>
        go_wp2
        go_ret
        exact ⟨by rw [HF.out]; rfl, o2, k2⟩
      | true =>
        have hr := HR.out rfl z2
        cases em with
        | true =>
          rw [Bool.true_or] at hr
          subst hr
          go_wp2
          go_ret
          exact ⟨by rw [HF.out]; rfl, o2, k2⟩
        | false =>
          rw [Bool.false_or] at hr
          subst hr
          go_wp2_with fail
          refine (hN.out w2).mono ?_
          rintro e3 w3 ⟨rfl, pos, rfl⟩
          go_wp2
          go_ret
          exact ⟨by rw [HF.out]; rfl, o2.more _, k2.trans ⟨rfl, rfl, rfl⟩⟩
    · have d1 : decide (1 ≤ (s.size : Int)) = true := decide_eq_true (by omega)
      have d2 : decide ((s.size : Int) ≤ 24) = false := decide_eq_false (by omega)
      have HF := Lib.hid (show (v && decide (1 ≤ s.size) && decide (s.size ≤ 24) && al) = false by rw [decide_eq_false z2, Bool.and_false, Bool.false_and])
      go_wp2
      go_ret
      exact ⟨by rw [HF.out]; rfl, o1, k1⟩
  · have d1 : decide (1 ≤ (s.size : Int)) = false := decide_eq_false (by omega)
    have HF := Lib.hid (show (v && decide (1 ≤ s.size) && decide (s.size ≤ 24) && al) = false by rw [decide_eq_false z1, Bool.and_false, Bool.false_and, Bool.false_and])
    go_wp2
    go_ret
    exact ⟨by rw [HF.out]; rfl, o1, k1⟩

set_option maxHeartbeats 3200000 in
set_option maxRecDepth 100000 in
theorem labMatch_spec (p s : ByteArray) (hp : p.size ≤ 2000000) (hs : s.size ≤ 2000000) (hT : TabsW W) (hm : MaxW W) (o : Own w (old W :: R)) :
    Calls Tryd.prog 14 #[.string p, .string s] w (Ret (.bool (matchB p.data.toList s.data.toList)) (old W :: R) w) := by
  have h1 := pattern_spec p hp hT hm o
  have h2 := Lib.hid fun (w1 : World) => valid_spec (w := w1) s (by omega)
  have h3 := Lib.hid fun (w1 : World) (R : List SP) (o1 : Own w1 (old W :: R)) => labFolded_spec p hp hT o1
  have h4 := Lib.hid fun (w1 : World) (R : List SP) (o1 : Own w1 (old W :: R)) => labFolded_spec s hs hT o1
  have lx : (foldR p.data.toList).length ≤ 2000000 := by
    unfold foldR; rw [List.length_map]
    have h1 := runesL_length p.data.toList
    have h2 : p.data.toList.length = p.size := (Lib.size_eq p).symm
    omega
  have ly : (foldR s.data.toList).length ≤ 2000000 := by
    unfold foldR; rw [List.length_map]
    have h1 := runesL_length s.data.toList
    have h2 : s.data.toList.length = s.size := (Lib.size_eq s).symm
    omega
  have hM : matchB p.data.toList s.data.toList = (patB p.data.toList && nameB s.data.toList && lk (foldR p.data.toList) (foldR s.data.toList)) := rfl
  rw [hM]
  clear hM
  obtain ⟨na, hna⟩ : ∃ na, patB p.data.toList = na := ⟨_, rfl⟩
  obtain ⟨nb, hnb⟩ : ∃ nb, nameB s.data.toList = nb := ⟨_, rfl⟩
  obtain ⟨x, hx⟩ : ∃ x, foldR p.data.toList = x := ⟨_, rfl⟩
  obtain ⟨y, hy⟩ : ∃ y, foldR s.data.toList = y := ⟨_, rfl⟩
  rw [hx] at h3 lx ⊢
  rw [hy] at h4 ly ⊢
  rw [hna] at h1 ⊢
  rw [hnb] at h2 ⊢
  clear hx hy hna hnb
  go_enter Tryd.func14, Tryd.ntmps14
  go_wp2_with fail
  refine h1.mono ?_
  rintro e1 w1 ⟨rfl, o1, k1⟩
  clear h1
  cases na with
  | false =>
    go_wp2
    go_ret
    exact ⟨rfl, o1, k1⟩
  | true =>
    go_wp2_with fail
    refine (h2.out w1).mono ?_
    rintro e2 w2 ⟨rfl, pos, rfl⟩
    have o2 : Own (w1.iter s pos) (old W :: R) := o1.more _
    have k2 : Calm w (w1.iter s pos) := k1.trans ⟨rfl, rfl, rfl⟩
    obtain ⟨w2, hw2⟩ : ∃ w2, w1.iter s pos = w2 := ⟨_, rfl⟩
    rw [hw2] at o2 k2 ⊢
    clear hw2
    cases nb with
    | false =>
      go_wp2
      go_ret
      exact ⟨rfl, o2, k2⟩
    | true =>
      go_wp2_with fail
      refine (h3.out _ _ o2).mono ?_
      rintro e3 w3 ⟨pp, c, rfl, o3, k3⟩
      go_wp2_with fail
      refine (h4.out _ _ o3.swap).mono ?_
      rintro e4 w4 ⟨p2, c2, rfl, o4, k4⟩
      have hs := match_spec x y pp p2 c c2 lx ly (Own.re o4 [0, 2, 1])
      go_wp2_with fail
      refine hs.mono ?_
      rintro e5 w5 ⟨rfl, o5, k5⟩
      go_wp2
      go_ret
      exact ⟨rfl, o5, k2.trans (k3.trans (k4.trans k5))⟩
end
end Go.Proofs.YtapingmjlpmmmaaDoor
