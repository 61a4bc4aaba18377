/- Names: the program's Compare. -/
import Derived.Test.YtbldanhjbnpdiaaGreatDoorLabS
import Derived.Test.YtbldanhjbnpdiaaGreatDoorLabF
import Derived.Laws.IdiomStrings
namespace Go.Proofs.YtbldanhjbnpdiaaGreatDoor
open Go.RowKit
open Go.Shelf
open SP
section
variable {W w w' : World} {R : List SP}

def runeV (n : Nat) : Value := .int .i32 (n : Int)
/-- Runes as values. -/
def runs (l : List Nat) : List Value := l.map runeV
theorem runs_get {l : List Nat} {i r : Nat} (h : l[i]? = some r) : (runs l)[i]? = some (.int .i32 (r : Int)) := by
  unfold runs; rw [List.getElem?_map, h]; rfl
theorem runs_length (l : List Nat) : (runs l).length = l.length := List.length_map _

theorem runesFrom_eq (s : ByteArray) : ∀ (bound i : Nat) (acc : Array Value), s.size ≤ i + bound → (Conv.runesFrom s bound i acc).toList = acc.toList ++ runs (runesL (s.data.toList.drop i))
  | 0, i, acc, h => by
    rw [runesL_end s i (by omega)]
    simp [Conv.runesFrom, runs]
  | bound + 1, i, acc, h => by
    unfold Conv.runesFrom
    by_cases hp : i < s.size
    · have hw := Lib.decode_width_pos s i hp
      rw [if_pos hp]
      have := runesFrom_eq s bound (i + (Utf8.decode s i).2) (acc.push (.int .i32 (Int.ofNat (Utf8.decode s i).1))) (by omega)
      rw [runesL_at s i hp]
      refine this.trans ?_
      simp [runs, runeV]
    · rw [if_neg hp, runesL_end s i hp]; simp [runs]
theorem runesFrom_runs (s : ByteArray) : Conv.runesFrom s s.size 0 #[] = (runs (runesL s.data.toList)).toArray := by
  apply Array.toList_inj.1
  rw [runesFrom_eq s s.size 0 #[] (by omega)]; rfl
theorem runesL_foldB (l : List UInt8) : runesL (foldB l) = foldR l := by
  unfold foldB; exact runesL_encoded _ (foldR_scalar l)

set_option maxHeartbeats 1600000 in
set_option maxRecDepth 100000 in
theorem labFolded_spec (s : ByteArray) (hs : s.size ≤ 2000000) (hT : TabsW W) (o : Own w (old W :: R)) :
    Calls Tryz.prog 32 #[.string s] w (fun e w' => ∃ a c, e = .returned (.slice a (foldR s.data.toList).length c) ∧ Own w' (slc 21 1 a (foldR s.data.toList).length c (runs (foldR s.data.toList)) :: old W :: R) ∧ Calm w w') := by
  have hM := Any.strings_Map_grows Tryz.laysMap Tryz.extraM 42 #[] (enters_of Tryz.func42 (by kernel_rfl) rfl) foldZ s w (by omega) (fold_pays _) foldZ_range (Own.tabs hT o)
  rw [mapD_fold] at hM
  have hlen : (foldR s.data.toList).length ≤ 2000000 := by
    unfold foldR; rw [List.length_map]
    have h1 := runesL_length s.data.toList
    have h2 : s.data.toList.length = s.size := (Lib.size_eq s).symm
    omega
  have hrn : Conv.runesFrom (⟨(foldB s.data.toList).toArray⟩ : ByteArray) (⟨(foldB s.data.toList).toArray⟩ : ByteArray).size 0 #[] = (runs (foldR s.data.toList)).toArray := by
    rw [runesFrom_runs]; rw [show (⟨(foldB s.data.toList).toArray⟩ : ByteArray).data.toList = foldB s.data.toList from rfl, runesL_foldB]
  obtain ⟨rs, hrs⟩ : ∃ rs, foldR s.data.toList = rs := ⟨_, rfl⟩
  rw [hrs] at hrn hlen ⊢
  have hcv : ∀ w : World, _ := fun w => run_runes_of_string w 9 57 21 (⟨(foldB s.data.toList).toArray⟩ : ByteArray) Tryz.underlying9 Tryz.underlying57 Tryz.underlying21 (by rw [hrn, List.size_toArray, runs_length]; omega)
  simp only [hrn, List.size_toArray, runs_length] at hcv
  obtain ⟨t, ht⟩ : ∃ t, (⟨(foldB s.data.toList).toArray⟩ : ByteArray) = t := ⟨_, rfl⟩
  rw [ht] at hM hcv
  clear hrn hrs ht
  go_enter Tryz.func32, Tryz.ntmps32
  go_wp2_with fail
  refine hM.mono ?_
  rintro e2 w2 ⟨rfl, hbel⟩
  clear hM
  have o2 := o.keepBelow hbel
  go_wp2
  go_ret
  refine ⟨_, _, rfl, ?_, Calm.trans (Calm.ofBelow hbel) ⟨rfl, rfl, rfl⟩⟩
  refine Own.slc.2 (.inr ⟨w2.heap.size, List.replicate (grownCap w2 rs.length 0 21 - rs.length) (.int .i32 0), rfl, grownCap_ge _ _ _ _, grownCap_le_maxLen _ _ _ _ (by unfold maxLen; omega), by rw [runs_length]; omega, by rw [List.length_replicate]; omega, ?_⟩)
  have e : (runs rs).toArray ++ Array.replicate (grownCap w2 rs.length 0 21 - rs.length) (Value.int .i32 0) = (runs rs ++ List.replicate (grownCap w2 rs.length 0 21 - rs.length) (Value.int .i32 0)).toArray := by simp
  rw [e]
  exact (o2.alloc _).drew

def cmp1 (x y : Nat) : Int := if x < y then -1 else if y < x then 1 else 0
set_option maxHeartbeats 1600000 in
set_option maxRecDepth 100000 in
theorem isNaN_spec (x : Nat) : Calls Tryz.prog 51 #[.int .i32 (x : Int)] w (IsRet (.bool false) w) := by
  go_enter Tryz.func51, Tryz.ntmps51
  go_wp2
  go_ret
  exact ⟨by simp, rfl⟩
set_option maxHeartbeats 1600000 in
set_option maxRecDepth 100000 in
theorem cmpRune_spec (x y : Nat) : Calls Tryz.prog 40 #[.int .i32 (x : Int), .int .i32 (y : Int)] w (IsRet (.int .i64 (cmp1 x y)) w) := by
  have h1 := isNaN_spec (w := w) x
  have h2 := isNaN_spec (w := w) y
  unfold cmp1
  by_cases c1 : x < y
  · have d1 : decide (x < y) = true := decide_eq_true (by omega)
    rw [if_pos c1]
    clear c1
    go_enter Tryz.func40, Tryz.ntmps40
    go_wp2_with fail
    refine h1.mono ?_
    rintro e1 w1 ⟨rfl, rfl⟩
    go_wp2_with fail
    refine h2.mono ?_
    rintro e1 w1 ⟨rfl, rfl⟩
    go_wp2
    go_ret
    exact ⟨rfl, rfl⟩
  · have d1 : decide (x < y) = false := decide_eq_false (by omega)
    rw [if_neg c1]
    by_cases c2 : y < x
    · have d2 : decide (y < x) = true := decide_eq_true (by omega)
      rw [if_pos c2]
      clear c1 c2
      go_enter Tryz.func40, Tryz.ntmps40
      go_wp2_with fail
      refine h1.mono ?_
      rintro e1 w1 ⟨rfl, rfl⟩
      go_wp2_with fail
      refine h2.mono ?_
      rintro e1 w1 ⟨rfl, rfl⟩
      go_wp2
      go_ret
      exact ⟨rfl, rfl⟩
    · have d2 : decide (y < x) = false := decide_eq_false (by omega)
      rw [if_neg c2]
      clear c1 c2
      go_enter Tryz.func40, Tryz.ntmps40
      go_wp2_with fail
      refine h1.mono ?_
      rintro e1 w1 ⟨rfl, rfl⟩
      go_wp2_with fail
      refine h2.mono ?_
      rintro e1 w1 ⟨rfl, rfl⟩
      go_wp2
      go_ret
      exact ⟨rfl, rfl⟩

def CmpRel2 (x y : List Nat) (p p2 : Option Addr) (c c2 : Nat) (R : List SP) (w : World) (v : Value) (wr : World) : Prop :=
  ∃ i : Nat, v = .int .i64 (i : Int) ∧ i ≤ x.length ∧ i ≤ y.length ∧ cmpN x y = cmpN (x.drop i) (y.drop i) ∧
    Own wr (slc 21 1 p2 y.length c2 (runs y) :: slc 21 1 p x.length c (runs x) :: R) ∧ Calm w wr
theorem cmp_short {x y : List Nat} {i : Nat} (hi : i < x.length) (hj : i = y.length) : cmpN (x.drop i) (y.drop i) = 1 := by
  rw [cmpN_end (by omega) (by omega) (by omega), if_neg (by omega), if_pos (by omega)]
theorem cmp_one {x y : List Nat} {i a b : Nat} (hx : x[i]? = some a) (hy : y[i]? = some b) : cmpN (x.drop i) (y.drop i) = if cmp1 a b = 0 then cmpN (x.drop (i + 1)) (y.drop (i + 1)) else cmp1 a b := by
  rw [cmpN_step hx hy]
  unfold cmp1
  repeat' split
  all_goals omega

set_option maxHeartbeats 3200000 in
set_option maxRecDepth 100000 in
theorem slCompare_spec (x y : List Nat) (p p2 : Option Addr) (c c2 : Nat) (hx : x.length ≤ 2000000) (hy : y.length ≤ 2000000) (o : Own w (slc 21 1 p2 y.length c2 (runs y) :: slc 21 1 p x.length c (runs x) :: R)) :
    Calls Tryz.prog 31 #[.slice p x.length c, .slice p2 y.length c2] w (Ret (.int .i64 (cmpN x y)) R w) := by
  go_enter Tryz.func31, Tryz.ntmps31
  go_wp2
  go_loopw [11] (fun v wr => CmpRel2 x y p p2 c c2 R w v wr) (fun v _ => x.length - (intOf v).toNat)
  case atStart => exact ⟨0, rfl, by omega, by omega, rfl, o, Calm.refl w⟩
  case round =>
    obtain ⟨i, rfl, hi, hj, hc, oR, kR⟩ := hrel
    have fin : ∀ (z : Int), cmpN x y = z → Ret (.int .i64 (cmpN x y)) R w (.returned (.int .i64 z)) wr := fun z hz => ⟨by rw [hz], oR.drop.drop, kR⟩
    by_cases h1 : i < x.length
    · obtain ⟨u, hu⟩ : ∃ u, x[i]? = some u := ⟨_, List.getElem?_eq_getElem h1⟩
      obtain ⟨g1, rfl, hc1, _, _⟩ := (oR.up 1).slc_cell (by omega)
      have d1 := hc1 i _ (runs_get hu)
      clear hc1
      by_cases h2 : i < y.length
      · obtain ⟨t, ht⟩ : ∃ t, y[i]? = some t := ⟨_, List.getElem?_eq_getElem h2⟩
        have hst := cmp_one hu ht
        rw [← hc] at hst
        obtain ⟨g2, rfl, hc2, _, _⟩ := oR.slc_cell (by omega)
        have d2 := hc2 i _ (runs_get ht)
        clear hc2
        have d3 : decide (y.length ≤ i) = false := decide_eq_false (by omega)
        have hcm := cmpRune_spec (w := wr) u t
        obtain ⟨z, hz⟩ : ∃ z, cmp1 u t = z := ⟨_, rfl⟩
        rw [hz] at hcm hst
        clear hz
        go_wp2_with fail
        refine hcm.mono ?_
        rintro e1 w1 ⟨rfl, rfl⟩
        clear hcm
        by_cases hz0 : z = 0
        · subst hz0
          rw [if_pos rfl] at hst
          go_wp2
          go_roundw
          case rel => exact ⟨i + 1, by go_num, by omega, by omega, hst, oR, kR⟩
          case measure => simp [intOf]; omega
        · rw [if_neg hz0] at hst
          have d4 : (z == 0) = false := beq_eq_false_iff_ne.2 hz0
          go_wp2
          go_ret
          exact fin _ hst
      · have hst := cmp_short (x := x) (y := y) h1 (by omega)
        rw [← hc] at hst
        have d3 : decide (y.length ≤ i) = true := decide_eq_true (by omega)
        go_wp2
        go_ret
        exact fin _ hst
    · have he := cmpN_end hi hj (by omega)
      rw [← hc] at he
      have f0 : decide (i < x.length) = false := decide_eq_false (by omega)
      by_cases c1 : x.length < y.length
      · rw [if_pos c1] at he
        have f1 : decide (x.length < y.length) = true := decide_eq_true (by omega)
        go_wp2
        go_ret
        exact fin _ he
      · rw [if_neg c1, if_neg (by omega)] at he
        have f1 : decide (x.length < y.length) = false := decide_eq_false (by omega)
        go_wp2
        go_ret
        exact fin _ he

set_option maxHeartbeats 3200000 in
set_option maxRecDepth 100000 in
theorem labCompare_spec (a b : ByteArray) (ha : a.size ≤ 2000000) (hb : b.size ≤ 2000000) (hT : TabsW W) (o : Own w (old W :: R)) :
    Calls Tryz.prog 24 #[.string a, .string b] w (Ret (.int .i64 (cmpS a b)) (old W :: R) w) := by
  have h1 := Lib.hid fun (w1 : World) => valid_spec (w := w1) a (by omega)
  have h2 := Lib.hid fun (w1 : World) => valid_spec (w := w1) b (by omega)
  have h3 := Lib.hid fun (w1 : World) (R : List SP) (o1 : Own w1 (old W :: R)) => labFolded_spec a ha hT o1
  have h4 := Lib.hid fun (w1 : World) (R : List SP) (o1 : Own w1 (old W :: R)) => labFolded_spec b hb hT o1
  have lx : (foldR a.data.toList).length ≤ 2000000 := by
    unfold foldR; rw [List.length_map]
    have h1 := runesL_length a.data.toList
    have h2 : a.data.toList.length = a.size := (Lib.size_eq a).symm
    omega
  have ly : (foldR b.data.toList).length ≤ 2000000 := by
    unfold foldR; rw [List.length_map]
    have h1 := runesL_length b.data.toList
    have h2 : b.data.toList.length = b.size := (Lib.size_eq b).symm
    omega
  have hC : cmpS a b = if nameB a.data.toList = true then (if nameB b.data.toList = true then cmpN (foldR a.data.toList) (foldR b.data.toList) else 1) else (if nameB b.data.toList = true then -1 else 0) := rfl
  rw [hC]
  obtain ⟨na, hna⟩ : ∃ na, nameB a.data.toList = na := ⟨_, rfl⟩
  obtain ⟨nb, hnb⟩ : ∃ nb, nameB b.data.toList = nb := ⟨_, rfl⟩
  obtain ⟨x, hx⟩ : ∃ x, foldR a.data.toList = x := ⟨_, rfl⟩
  obtain ⟨y, hy⟩ : ∃ y, foldR b.data.toList = y := ⟨_, rfl⟩
  rw [hx] at h3 lx ⊢
  rw [hy] at h4 ly ⊢
  rw [hna] at h1 ⊢
  rw [hnb] at h2 ⊢
  obtain ⟨v, hv⟩ : ∃ v : Int, (if na = true then (if nb = true then cmpN x y else 1) else (if nb = true then -1 else 0)) = v := ⟨_, rfl⟩
  rw [hv]
  have HV := Lib.hid hv
  clear hx hy hna hnb hC hv
  go_enter Tryz.func24, Tryz.ntmps24
  go_wp2_with fail
  refine (h1.out w).mono ?_
  rintro e1 w1 ⟨rfl, pos, rfl⟩
  go_wp2_with fail
  refine (h2.out _).mono ?_
  rintro e2 w2 ⟨rfl, pos2, rfl⟩
  have o2 : Own ((w.iter a pos).iter b pos2) (old W :: R) := (o.more _).more _
  have k2 : Calm w ((w.iter a pos).iter b pos2) := ⟨rfl, rfl, rfl⟩
  obtain ⟨w2, hw2⟩ : ∃ w2, (w.iter a pos).iter b pos2 = w2 := ⟨_, rfl⟩
  rw [hw2] at o2 k2 ⊢
  clear hw2
  cases na with
  | true =>
    cases nb with
    | true =>
      go_wp2_with fail
      refine (h3.out _ _ o2).mono ?_
      rintro e3 w3 ⟨p, c, rfl, o3, k3⟩
      go_wp2_with fail
      refine (h4.out _ _ o3.swap).mono ?_
      rintro e4 w4 ⟨p2, c2, rfl, o4, k4⟩
      have hs := slCompare_spec x y p p2 c c2 lx ly (Own.re o4 [0, 2, 1])
      go_wp2_with fail
      refine hs.mono ?_
      rintro e5 w5 ⟨rfl, o5, k5⟩
      go_wp2
      go_ret
      exact ⟨by rw [← HV.out]; rfl, o5, k2.trans (k3.trans (k4.trans k5))⟩
    | false =>
      go_wp2
      go_ret
      exact ⟨by rw [← HV.out]; rfl, o2, k2⟩
  | false =>
    cases nb with
    | true =>
      go_wp2
      go_ret
      exact ⟨by rw [← HV.out]; rfl, o2, k2⟩
    | false =>
      go_wp2
      go_ret
      exact ⟨by rw [← HV.out]; rfl, o2, k2⟩
end
end Go.Proofs.YtbldanhjbnpdiaaGreatDoor
