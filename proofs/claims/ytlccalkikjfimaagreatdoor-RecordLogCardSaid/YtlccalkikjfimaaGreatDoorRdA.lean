/- Records: numerals by the reference. -/
import Derived.Test.YtlccalkikjfimaaGreatDoorRdP
import Derived.Test.YtlccalkikjfimaaGreatDoorBel
import Derived.Test.YtlccalkikjfimaaGreatDoorApp
import Derived.Test.YtlccalkikjfimaaGreatDoorRcA
import Derived.Lib.ParseIntB
namespace Go.Proofs.YtlccalkikjfimaaGreatDoor
open Go.RowKit
open Go.Shelf
open SP
/-! ### ParseInt at numerals -/
theorem parseM_digs (M : Nat) (hM : 10000000000000000000 ≤ M) : ∀ (l : List UInt8) (acc : Nat), l.all digB = true → (acc + 1) * 10 ^ l.length ≤ 10000000000000000000 → Lib.parseUintM M acc l = .ok (valFrom acc l)
  | [], acc, _, _ => rfl
  | b :: r, acc, h, hb => by
    rw [List.all_cons, Bool.and_eq_true] at h
    have hd := digB_iff.1 h.1
    rw [List.length_cons, Nat.pow_succ, Nat.mul_comm (10 ^ r.length) 10, ← Nat.mul_assoc] at hb
    have hp : 1 ≤ 10 ^ r.length := Nat.one_le_pow _ _ (by decide)
    have h1 : (acc + 1) * 10 ≤ 10000000000000000000 := Nat.le_trans (Nat.le_mul_of_pos_right _ hp) hb
    unfold Lib.parseUintM
    rw [if_pos hd, if_neg (by omega), if_neg (by omega), parseM_digs M hM r _ h.2 (Nat.le_trans (Nat.mul_le_mul_right _ (by omega)) hb)]
    rfl
theorem parseU_digs {l : List UInt8} (h : l.all digB = true) (h1 : 1 ≤ l.length) (h2 : l.length ≤ 19) : Lib.parseUintB 64 l = .ok (valFrom 0 l) := by
  unfold Lib.parseUintB
  rw [if_neg (by intro e; rw [e] at h1; exact absurd h1 (by decide))]
  refine parseM_digs _ (by decide) l 0 h ?_
  rw [Nat.zero_add, Nat.one_mul]
  exact Nat.pow_le_pow_right (by decide) h2
/-- What ParseInt says of a numeral. -/
theorem parse_num {l : List UInt8} (h : nlOK l = true) : Lib.parseIntB 64 l = if -9223372036854775808 ≤ nlV l ∧ nlV l ≤ 9223372036854775807 then .ok (nlV l) else .range := by
  unfold nlOK at h
  rw [Bool.and_eq_true] at h
  have hlen := numOK_len h.1
  have hall := numOK_all h.1
  cases l with
  | nil => simp [nlDig, nlNeg] at hlen
  | cons c r =>
    by_cases hc : c = 45
    · subst hc
      have hneg : nlNeg (45 :: r) = true := rfl
      have hdig : nlDig (45 :: r) = r := rfl
      rw [hdig] at hlen hall
      have hV : nlV (45 :: r) = -(valFrom 0 r : Nat) := rfl
      rw [hV]
      unfold Lib.parseIntB
      have e : (45 : UInt8).toNat = 45 := rfl
      simp only [e, or_true, if_true, parseU_digs hall hlen.1 hlen.2]
      generalize valFrom 0 r = v
      by_cases hv : 9223372036854775808 < v
      · rw [if_neg (by simp), if_pos ⟨trivial, by simpa using hv⟩, if_neg (by omega)]
      · rw [if_neg (by simp), if_neg (by intro ⟨_, h⟩; exact hv (by simpa using h)), if_pos (by omega)]
    · have hneg : nlNeg (c :: r) = false := decide_eq_false (by simpa using hc)
      have hdig : nlDig (c :: r) = c :: r := by unfold nlDig; rw [hneg, if_neg Bool.false_ne_true]
      rw [hdig] at hlen hall
      have hV : nlV (c :: r) = (valFrom 0 (c :: r) : Nat) := by unfold nlV; rw [hneg, if_neg Bool.false_ne_true, hdig]
      rw [hV]
      have hcd := hall
      rw [List.all_cons, Bool.and_eq_true] at hcd
      have hd := digB_iff.1 hcd.1
      unfold Lib.parseIntB
      have e45 : ¬ c.toNat = 45 := by omega
      have e43 : ¬ (c.toNat = 43 ∨ c.toNat = 45) := by omega
      simp only [e43, if_false, parseU_digs hall hlen.1 hlen.2]
      generalize valFrom 0 (c :: r) = v
      by_cases hv : 9223372036854775808 ≤ v
      · rw [if_pos ⟨e45, by simpa using hv⟩, if_neg (by omega)]
      · rw [if_neg (by intro ⟨_, h⟩; exact hv (by simpa using h)), if_neg (by intro ⟨h, _⟩; exact e45 h), if_neg e45, if_pos (by omega)]
/-! ### The reference's value -/
def valOf (ng : Bool) (d : List UInt8) : Value :=
  if (numOK 19 d && !(ng && decide (d.head? = some 48))) = true then
    (if valFrom 0 d ≤ 4611686018427387904 then .tuple #[.int .i64 (if ng = true then -(valFrom 0 d : Nat) else (valFrom 0 d : Nat)), .bool true, .bool true] else .tuple #[.int .i64 0, .bool true, .bool false])
  else .tuple #[.int .i64 0, .bool false, .bool false]
def valV (p : List UInt8) : Value := valOf (nlNeg p) (nlDig p)
theorem valOf_bad {ng : Bool} {d : List UInt8} (h : (numOK 19 d && !(ng && decide (d.head? = some 48))) = false) : valOf ng d = .tuple #[.int .i64 0, .bool false, .bool false] := by
  unfold valOf; rw [h, if_neg Bool.false_ne_true]
theorem valOf_num {ng : Bool} {d : List UInt8} (h : numOK 19 d = false) : valOf ng d = .tuple #[.int .i64 0, .bool false, .bool false] := valOf_bad (by rw [h, Bool.false_and])
theorem valOf_big {ng : Bool} {d : List UInt8} (h : (numOK 19 d && !(ng && decide (d.head? = some 48))) = true) (hb : 4611686018427387904 < valFrom 0 d) : valOf ng d = .tuple #[.int .i64 0, .bool true, .bool false] := by
  unfold valOf; rw [if_pos h, if_neg (by omega)]
theorem valOf_ok {ng : Bool} {d : List UInt8} (h : (numOK 19 d && !(ng && decide (d.head? = some 48))) = true) (hb : ¬ 4611686018427387904 < valFrom 0 d) : valOf ng d = .tuple #[.int .i64 (if ng = true then -(valFrom 0 d : Nat) else (valFrom 0 d : Nat)), .bool true, .bool true] := by
  unfold valOf; rw [if_pos h, if_pos (by omega)]
section
variable {W w w' : World} {R : List SP}
def DvRel (s : ByteArray) (w : World) (v6 v7 : Value) (wr : World) : Prop :=
  ∃ i : Nat, v7 = .int .i64 (i : Int) ∧ i ≤ s.size ∧ (s.data.toList.take i).all digB = true ∧ v6 = .int .u64 (valFrom 0 (s.data.toList.take i) : Nat) ∧ wr = w
theorem pow_small18 {i : Nat} (h : i ≤ 18) : 10 ^ i ≤ 1000000000000000000 := Nat.le_trans (Nat.pow_le_pow_right (by decide) h) (by decide)

set_option maxHeartbeats 6400000 in
set_option maxRecDepth 100000 in
theorem value_spec (s : ByteArray) (hs : s.size ≤ 1000000) : Calls Tryz.prog 40 #[.string s] w (IsRet (valV s.data.toList) w) := by
  have hl0 : s.data.toList.length = s.size := (Lib.size_eq s).symm
  by_cases hz : s.size = 0
  · have hp : s.data.toList = [] := List.eq_nil_of_length_eq_zero (by omega)
    have d0 : decide (0 < s.size) = false := decide_eq_false (by omega)
    have d1 : decide (s.size < 1) = true := decide_eq_true (by omega)
    have hV := Lib.hid (show valV s.data.toList = .tuple #[.int .i64 0, .bool false, .bool false] from by rw [hp]; exact valOf_num rfl)
    clear hp hl0
    go_enter Tryz.func40, Tryz.ntmps40
    go_wp2
    go_ret3
    exact ⟨congrArg Ending.returned hV.out.symm, rfl⟩
  have hz0 : 0 < s.size := by omega
  have g0 := getB s 0 hz0
  have key : ∃ (ng : Bool) (s2 : ByteArray), valV s.data.toList = valOf ng s2.data.toList ∧ s2.size ≤ s.size ∧ ((((s[0]'hz0).toNat : Nat) : Int) == 45) = ng ∧ (if ng = true then s.extract 1 s.size = s2 else s = s2) := by
    by_cases hc : s[0]'hz0 = 45
    · refine ⟨true, s.extract 1 s.size, ?_, ?_, by rw [hc]; rfl, by rw [if_pos rfl]⟩
      · have h1 : s.data.toList.head? = some 45 := by rw [List.head?_eq_getElem?, g0, hc]
        have hn : nlNeg s.data.toList = true := decide_eq_true h1
        unfold valV nlDig
        rw [hn, if_pos rfl]
        congr 1
        rw [Lib.extract_data, List.take_of_length_le (by rw [List.length_drop]; omega)]
        exact (List.drop_one).symm
      · rw [ByteArray.size_extract]; omega
    · have h1 : ¬ s.data.toList.head? = some 45 := by rw [List.head?_eq_getElem?, g0]; intro e; exact hc (Option.some.inj e)
      have hn : nlNeg s.data.toList = false := decide_eq_false h1
      refine ⟨false, s, ?_, Nat.le_refl _, beq_eq_false_iff_ne.2 fun e => hc (UInt8.toNat_inj.1 (by show _ = 45; omega)), by rw [if_neg Bool.false_ne_true]⟩
      unfold valV nlDig
      rw [hn, if_neg Bool.false_ne_true]
  obtain ⟨ng, s2, hV, hs2, hb, hx⟩ := key
  have HV := Lib.hid hV
  clear hV g0 hl0
  have hl : s2.data.toList.length = s2.size := (Lib.size_eq s2).symm
  have d0 : decide (0 < s.size) = true := decide_eq_true hz0
  have fin : valOf ng s2.data.toList = .tuple #[.int .i64 0, .bool false, .bool false] → IsRet (valV s.data.toList) w (.returned (.tuple #[.int .i64 0, .bool false, .bool false])) w := fun h => ⟨by rw [HV.out, h], rfl⟩
  have FIN := Lib.hid fin
  clear fin
  by_cases h1 : s2.size < 1
  · have d1 : decide (s2.size < 1) = true := decide_eq_true h1
    have hn := Lib.hid (valOf_num (ng := ng) (numOK_short (most := 19) (l := s2.data.toList) (by omega)))
    cases ng with
    | false => simp only [Bool.false_eq_true, if_false] at hx; subst hx; exfalso; omega
    | true =>
      rw [if_pos rfl] at hx
      clear hs2 hl
      go_enter Tryz.func40, Tryz.ntmps40
      go_wp2
      go_ret3
      exact FIN.out hn.out
  have d1 : decide (s2.size < 1) = false := decide_eq_false h1
  by_cases h2 : 19 < s2.size
  · have d2 : decide (19 < s2.size) = true := decide_eq_true h2
    have hn := Lib.hid (valOf_num (ng := ng) (numOK_long (most := 19) (l := s2.data.toList) (by omega)))
    clear hl
    cases ng with
    | false =>
      rw [if_neg Bool.false_ne_true] at hx
      subst hx
      go_enter Tryz.func40, Tryz.ntmps40
      go_wp2
      go_ret3
      exact FIN.out hn.out
    | true =>
      rw [if_pos rfl] at hx
      go_enter Tryz.func40, Tryz.ntmps40
      go_wp2
      go_ret3
      exact FIN.out hn.out
  have d2 : decide (19 < s2.size) = false := decide_eq_false h2
  have hy0 : 0 < s2.size := by omega
  have g0 := getB s2 0 hy0
  have hhd : s2.data.toList.head? = some (s2[0]'hy0) := by rw [List.head?_eq_getElem?]; exact g0
  by_cases h3 : s2[0]'hy0 = 48
  · have e4 : ((((s2[0]'hy0).toNat : Nat) : Int) == 48) = true := by rw [h3]; rfl
    rw [h3] at hhd g0
    by_cases h4 : 1 < s2.size
    · have d4 : decide (1 < s2.size) = true := decide_eq_true h4
      have hn := Lib.hid (valOf_num (ng := ng) (numOK_zero (most := 19) (l := s2.data.toList) (by omega) g0))
      clear hl g0 hhd h3
      cases ng with
      | false =>
        rw [if_neg Bool.false_ne_true] at hx
        subst hx
        go_enter Tryz.func40, Tryz.ntmps40
        go_wp2
        go_ret3
        exact FIN.out hn.out
      | true =>
        rw [if_pos rfl] at hx
        go_enter Tryz.func40, Tryz.ntmps40
        go_wp2
        go_ret3
        exact FIN.out hn.out
    have d4 : decide (1 < s2.size) = false := decide_eq_false h4
    cases ng with
    | true =>
      rw [if_pos rfl] at hx
      have hn := Lib.hid (valOf_bad (ng := true) (d := s2.data.toList) (by rw [decide_eq_true hhd, Bool.true_and, Bool.not_true, Bool.and_false]))
      clear hl g0 hhd h3
      go_enter Tryz.func40, Tryz.ntmps40
      go_wp2
      go_ret3
      exact FIN.out hn.out
    | false =>
      rw [if_neg Bool.false_ne_true] at hx
      have hx2 := hx.symm
      subst hx2
      have hgood := Lib.hid fun (h : s2.data.toList.all digB = true) => (show (numOK 19 s2.data.toList && !(false && decide (s2.data.toList.head? = some 48))) = true by
        rw [numOK_good (by omega) (by omega) (fun h => by omega) h]; rfl)
      clear g0 hhd h3
      go_enter Tryz.func40, Tryz.ntmps40
      go_wp2
      go_loopw [6, 7] (fun v6 v7 wr => DvRel s2 w v6 v7 wr) (fun _ v _ => s2.size - viN v)
      case atStart => exact ⟨0, rfl, by omega, rfl, rfl, rfl⟩
      case round =>
        obtain ⟨i, rfl, hi, hall, rfl, rfl⟩ := hrel
        by_cases hlt : i < s2.size
        · have dl : decide (i < s2.size) = true := decide_eq_true hlt
          have gi := getB s2 i hlt
          have hv := valFrom_le _ 0 hall
          rw [List.length_take] at hv
          have hp := pow_small18 (i := min i s2.data.toList.length) (by omega)
          have hv2 : valFrom 0 (s2.data.toList.take i) < 1000000000000000000 := by omega
          clear hv hp
          have hb256 := (s2[i]'hlt).toNat_lt
          have hnext : ∀ h : digB (s2[i]'hlt) = true, (s2.data.toList.take (i + 1)).all digB = true ∧ valFrom 0 (s2.data.toList.take (i + 1)) = valFrom 0 (s2.data.toList.take i) * 10 + ((s2[i]'hlt).toNat - 48) := fun h => by
            rw [List.take_add_one, gi, Option.toList_some, List.all_append, hall, valFrom_snoc]
            exact ⟨by simp [h], rfl⟩
          have HN := Lib.hid hnext
          clear hnext
          have HB := Lib.hid fun h => valOf_num (ng := false) (numOK_bad (most := 19) (all_not gi h))
          clear gi
          by_cases c1 : (s2[i]'hlt).toNat < 48
          · have dc : decide ((s2[i]'hlt).toNat < 48) = true := decide_eq_true c1
            have hb : digB (s2[i]'hlt) = false := decide_eq_false (by omega)
            have hn := Lib.hid (HB.out hb)
            clear hb
            go_wp2
            go_ret3
            exact FIN.out hn.out
          · have dc : decide ((s2[i]'hlt).toNat < 48) = false := decide_eq_false c1
            by_cases c2 : 57 < (s2[i]'hlt).toNat
            · have dc2 : decide (57 < (s2[i]'hlt).toNat) = true := decide_eq_true c2
              have hb : digB (s2[i]'hlt) = false := decide_eq_false (by omega)
              have hn := Lib.hid (HB.out hb)
              clear hb
              go_wp2
              go_ret3
              exact FIN.out hn.out
            · have dc2 : decide (57 < (s2[i]'hlt).toNat) = false := decide_eq_false c2
              have hb : digB (s2[i]'hlt) = true := decide_eq_true (by omega)
              have HN2 := Lib.hid (HN.out hb)
              clear hb
              go_wp2
              go_roundw
              case rel =>
                refine ⟨i + 1, by go_num, by omega, HN2.out.1, ?_, rfl⟩
                rw [HN2.out.2]
                congr 1
                omega
              case measure => simp [viN]; omega
        · have hie : i = s2.size := by omega
          have dl : decide (i < s2.size) = false := decide_eq_false hlt
          rw [List.take_of_length_le (by omega)] at hall ⊢
          have hg := Lib.hid (hgood.out hall)
          clear hall
          by_cases hbig : 4611686018427387904 < valFrom 0 s2.data.toList
          · have hr := Lib.hid (HV.out.trans (valOf_big hg.out hbig))
            have db : decide (4611686018427387904 < valFrom 0 s2.data.toList) = true := decide_eq_true hbig
            go_wp2
            go_ret3
            exact ⟨congrArg Ending.returned hr.out.symm, rfl⟩
          · have hr := Lib.hid (HV.out.trans (valOf_ok hg.out hbig))
            have db : decide (4611686018427387904 < valFrom 0 s2.data.toList) = false := decide_eq_false hbig
            go_wp2
            go_ret3
            exact ⟨congrArg Ending.returned (hr.out.trans (by simp)).symm, rfl⟩
  have e4 : ((((s2[0]'hy0).toNat : Nat) : Int) == 48) = false := beq_eq_false_iff_ne.2 fun e => h3 (UInt8.toNat_inj.1 (by show _ = 48; omega))
  have hgood := Lib.hid fun (h : s2.data.toList.all digB = true) => (show (numOK 19 s2.data.toList && !(ng && decide (s2.data.toList.head? = some 48))) = true by
    rw [numOK_good (by omega) (by omega) (fun h => h3 (by rw [g0] at h; exact Option.some.inj h.2)) h, decide_eq_false (by rw [hhd]; intro e; exact h3 (Option.some.inj e)), Bool.and_false]; rfl)
  clear g0 hhd h3
  cases ng with
  | true =>
    rw [if_pos rfl] at hx
    go_enter Tryz.func40, Tryz.ntmps40
    go_wp2
    go_loopw [6, 7] (fun v6 v7 wr => DvRel s2 w v6 v7 wr) (fun _ v _ => s2.size - viN v)
    case atStart => exact ⟨0, rfl, by omega, rfl, rfl, rfl⟩
    case round =>
      obtain ⟨i, rfl, hi, hall, rfl, rfl⟩ := hrel
      by_cases hlt : i < s2.size
      · have dl : decide (i < s2.size) = true := decide_eq_true hlt
        have gi := getB s2 i hlt
        have hv := valFrom_le _ 0 hall
        rw [List.length_take] at hv
        have hp := pow_small18 (i := min i s2.data.toList.length) (by omega)
        have hv2 : valFrom 0 (s2.data.toList.take i) < 1000000000000000000 := by omega
        clear hv hp
        have hb256 := (s2[i]'hlt).toNat_lt
        have hnext : ∀ h : digB (s2[i]'hlt) = true, (s2.data.toList.take (i + 1)).all digB = true ∧ valFrom 0 (s2.data.toList.take (i + 1)) = valFrom 0 (s2.data.toList.take i) * 10 + ((s2[i]'hlt).toNat - 48) := fun h => by
          rw [List.take_add_one, gi, Option.toList_some, List.all_append, hall, valFrom_snoc]
          exact ⟨by simp [h], rfl⟩
        have HN := Lib.hid hnext
        clear hnext
        have HB := Lib.hid fun h => valOf_num (ng := true) (numOK_bad (most := 19) (all_not gi h))
        clear gi
        by_cases c1 : (s2[i]'hlt).toNat < 48
        · have dc : decide ((s2[i]'hlt).toNat < 48) = true := decide_eq_true c1
          have hb : digB (s2[i]'hlt) = false := decide_eq_false (by omega)
          have hn := Lib.hid (HB.out hb)
          clear hb
          go_wp2
          go_ret3
          exact FIN.out hn.out
        · have dc : decide ((s2[i]'hlt).toNat < 48) = false := decide_eq_false c1
          by_cases c2 : 57 < (s2[i]'hlt).toNat
          · have dc2 : decide (57 < (s2[i]'hlt).toNat) = true := decide_eq_true c2
            have hb : digB (s2[i]'hlt) = false := decide_eq_false (by omega)
            have hn := Lib.hid (HB.out hb)
            clear hb
            go_wp2
            go_ret3
            exact FIN.out hn.out
          · have dc2 : decide (57 < (s2[i]'hlt).toNat) = false := decide_eq_false c2
            have hb : digB (s2[i]'hlt) = true := decide_eq_true (by omega)
            have HN2 := Lib.hid (HN.out hb)
            clear hb
            go_wp2
            go_roundw
            case rel =>
              refine ⟨i + 1, by go_num, by omega, HN2.out.1, ?_, rfl⟩
              rw [HN2.out.2]
              congr 1
              omega
            case measure => simp [viN]; omega
      · have hie : i = s2.size := by omega
        have dl : decide (i < s2.size) = false := decide_eq_false hlt
        rw [List.take_of_length_le (by omega)] at hall ⊢
        have hg := Lib.hid (hgood.out hall)
        clear hall
        by_cases hbig : 4611686018427387904 < valFrom 0 s2.data.toList
        · have hr := Lib.hid (HV.out.trans (valOf_big hg.out hbig))
          have db : decide (4611686018427387904 < valFrom 0 s2.data.toList) = true := decide_eq_true hbig
          go_wp2
          go_ret3
          exact ⟨congrArg Ending.returned hr.out.symm, rfl⟩
        · have hr := Lib.hid (HV.out.trans (valOf_ok hg.out hbig))
          have db : decide (4611686018427387904 < valFrom 0 s2.data.toList) = false := decide_eq_false hbig
          go_wp2
          go_ret3
          exact ⟨congrArg Ending.returned (hr.out.trans (by simp)).symm, rfl⟩
  | false =>
    rw [if_neg Bool.false_ne_true] at hx
    have hx2 := hx.symm
    subst hx2
    go_enter Tryz.func40, Tryz.ntmps40
    go_wp2
    go_loopw [6, 7] (fun v6 v7 wr => DvRel s2 w v6 v7 wr) (fun _ v _ => s2.size - viN v)
    case atStart => exact ⟨0, rfl, by omega, rfl, rfl, rfl⟩
    case round =>
      obtain ⟨i, rfl, hi, hall, rfl, rfl⟩ := hrel
      by_cases hlt : i < s2.size
      · have dl : decide (i < s2.size) = true := decide_eq_true hlt
        have gi := getB s2 i hlt
        have hv := valFrom_le _ 0 hall
        rw [List.length_take] at hv
        have hp := pow_small18 (i := min i s2.data.toList.length) (by omega)
        have hv2 : valFrom 0 (s2.data.toList.take i) < 1000000000000000000 := by omega
        clear hv hp
        have hb256 := (s2[i]'hlt).toNat_lt
        have hnext : ∀ h : digB (s2[i]'hlt) = true, (s2.data.toList.take (i + 1)).all digB = true ∧ valFrom 0 (s2.data.toList.take (i + 1)) = valFrom 0 (s2.data.toList.take i) * 10 + ((s2[i]'hlt).toNat - 48) := fun h => by
          rw [List.take_add_one, gi, Option.toList_some, List.all_append, hall, valFrom_snoc]
          exact ⟨by simp [h], rfl⟩
        have HN := Lib.hid hnext
        clear hnext
        have HB := Lib.hid fun h => valOf_num (ng := false) (numOK_bad (most := 19) (all_not gi h))
        clear gi
        by_cases c1 : (s2[i]'hlt).toNat < 48
        · have dc : decide ((s2[i]'hlt).toNat < 48) = true := decide_eq_true c1
          have hb : digB (s2[i]'hlt) = false := decide_eq_false (by omega)
          have hn := Lib.hid (HB.out hb)
          clear hb
          go_wp2
          go_ret3
          exact FIN.out hn.out
        · have dc : decide ((s2[i]'hlt).toNat < 48) = false := decide_eq_false c1
          by_cases c2 : 57 < (s2[i]'hlt).toNat
          · have dc2 : decide (57 < (s2[i]'hlt).toNat) = true := decide_eq_true c2
            have hb : digB (s2[i]'hlt) = false := decide_eq_false (by omega)
            have hn := Lib.hid (HB.out hb)
            clear hb
            go_wp2
            go_ret3
            exact FIN.out hn.out
          · have dc2 : decide (57 < (s2[i]'hlt).toNat) = false := decide_eq_false c2
            have hb : digB (s2[i]'hlt) = true := decide_eq_true (by omega)
            have HN2 := Lib.hid (HN.out hb)
            clear hb
            go_wp2
            go_roundw
            case rel =>
              refine ⟨i + 1, by go_num, by omega, HN2.out.1, ?_, rfl⟩
              rw [HN2.out.2]
              congr 1
              omega
            case measure => simp [viN]; omega
      · have hie : i = s2.size := by omega
        have dl : decide (i < s2.size) = false := decide_eq_false hlt
        rw [List.take_of_length_le (by omega)] at hall ⊢
        have hg := Lib.hid (hgood.out hall)
        clear hall
        by_cases hbig : 4611686018427387904 < valFrom 0 s2.data.toList
        · have hr := Lib.hid (HV.out.trans (valOf_big hg.out hbig))
          have db : decide (4611686018427387904 < valFrom 0 s2.data.toList) = true := decide_eq_true hbig
          go_wp2
          go_ret3
          exact ⟨congrArg Ending.returned hr.out.symm, rfl⟩
        · have hr := Lib.hid (HV.out.trans (valOf_ok hg.out hbig))
          have db : decide (4611686018427387904 < valFrom 0 s2.data.toList) = false := decide_eq_false hbig
          go_wp2
          go_ret3
          exact ⟨congrArg Ending.returned (hr.out.trans (by simp)).symm, rfl⟩

end
end Go.Proofs.YtlccalkikjfimaaGreatDoor
