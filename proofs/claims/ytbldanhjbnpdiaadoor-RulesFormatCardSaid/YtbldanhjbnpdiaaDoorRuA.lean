/- Rules: numbers and ports of both sides. -/
import Derived.Test.YtbldanhjbnpdiaaDoorRuP
import Derived.Test.YtbldanhjbnpdiaaDoorLabF
import Derived.Test.YtbldanhjbnpdiaaDoorBel
import Derived.Test.YtbldanhjbnpdiaaDoorApp
import Derived.Test.YtbldanhjbnpdiaaDoorShelfU
import Derived.Lib.AtoiErrMem
namespace Go.Proofs.YtbldanhjbnpdiaaDoor
open Go.RowKit
open Go.Shelf
open SP
section
variable {W w w' : World} {R : List SP}
def mkB (l : List UInt8) : ByteArray := ⟨l.toArray⟩
theorem mkB_append (l m : List UInt8) : mkB l ++ mkB m = mkB (l ++ m) := by
  apply ByteArray.ext
  unfold mkB
  simp [ByteArray.data_append]
theorem mkB_size (l : List UInt8) : (mkB l).size = l.length := rfl
theorem mkB_data (l : List UInt8) : (mkB l).data.toList = l := rfl
theorem mkB_self (s : ByteArray) : mkB s.data.toList = s := rfl
theorem mkB_inj {l m : List UInt8} : mkB l = mkB m ↔ l = m := by
  constructor
  · intro h
    have := congrArg (fun s : ByteArray => s.data.toList) h
    exact this
  · rintro rfl; rfl
theorem beqB (s t : ByteArray) : (s.toList == t.toList) = decide (s.data.toList = t.data.toList) := by
  rw [ByteArray.toList_eq, ByteArray.toList_eq, Bool.eq_iff_iff, beq_iff_eq, decide_eq_true_eq]
theorem emptyB (s : ByteArray) : s.toList.isEmpty = decide (s.data.toList = []) := by
  rw [ByteArray.toList_eq]
  cases s.data.toList <;> rfl

theorem getB (s : ByteArray) (k : Nat) (h : k < s.size) : s.data.toList[k]? = some (s[k]'h) := by
  have hl : s.data.toList.length = s.size := (Lib.size_eq s).symm
  rw [List.getElem?_eq_getElem (by omega)]
  simp
  rfl
/-- Every string is the string of a list. -/
theorem exB (s : ByteArray) : ∃ l, s = mkB l ∧ s.data.toList = l := ⟨s.data.toList, rfl, rfl⟩
def DiRel (s : ByteArray) (w : World) (v6 v7 : Value) (wr : World) : Prop :=
  ∃ i : Nat, v7 = .int .i64 (i : Int) ∧ i ≤ s.size ∧ (s.data.toList.take i).all digB = true ∧ v6 = .int .i64 (valFrom 0 (s.data.toList.take i) : Nat) ∧ wr = w
def viN : Value → Nat
  | .int _ n => n.toNat
  | _ => 0
theorem all_not {l : List UInt8} {i : Nat} {b : UInt8} (h : l[i]? = some b) (hb : digB b = false) : l.all digB = false := by
  rw [Bool.eq_false_iff]
  intro ha
  rw [List.all_eq_true] at ha
  have := ha b (List.mem_of_getElem? h)
  rw [hb] at this; cases this
theorem numOK_no {most : Nat} {l : List UInt8} (h : numOK most l = false) : numV most l = 0 := by unfold numV; rw [if_neg (by rw [h]; decide)]
theorem numOK_short {most : Nat} {l : List UInt8} (h : l.length < 1) : numOK most l = false := by unfold numOK; rw [decide_eq_false (by omega)]; rfl
theorem numOK_long {most : Nat} {l : List UInt8} (h : most < l.length) : numOK most l = false := by unfold numOK; rw [decide_eq_false (p := l.length ≤ most) (by omega), Bool.and_false]; rfl
theorem numOK_zero {most : Nat} {l : List UInt8} (h1 : 1 < l.length) (h : l[0]? = some 48) : numOK most l = false := by
  rw [← List.head?_eq_getElem?] at h
  unfold numOK; rw [decide_eq_true h1, decide_eq_true h]; simp
theorem numOK_bad {most : Nat} {l : List UInt8} (h : l.all digB = false) : numOK most l = false := by unfold numOK; rw [h, Bool.and_false]
theorem numOK_good {most : Nat} {l : List UInt8} (h1 : 1 ≤ l.length) (h2 : l.length ≤ most) (h3 : ¬ (1 < l.length ∧ l[0]? = some 48)) (h : l.all digB = true) : numOK most l = true := by
  rw [← List.head?_eq_getElem?] at h3
  unfold numOK; rw [decide_eq_true h1, decide_eq_true h2, h]
  simp only [Bool.and_true, Bool.true_and, Bool.not_eq_true', Bool.and_eq_false_iff, decide_eq_false_iff_not]
  by_cases h4 : 1 < l.length
  · exact .inr fun e => h3 ⟨h4, e⟩
  · exact .inl h4
theorem w64_in (n : Int) (h : -9223372036854775808 ≤ n ∧ n ≤ 9223372036854775807) : wrap64 n = n := by unfold wrap64; omega
theorem pow_small {i : Nat} (h : i ≤ 17) : 10 ^ i ≤ 100000000000000000 := Nat.le_trans (Nat.pow_le_pow_right (by decide) h) (by decide)

set_option maxHeartbeats 3200000 in
set_option maxRecDepth 100000 in
theorem digits_spec (s : ByteArray) (most : Nat) (hm : most ≤ 18) (hs : s.size ≤ 9223372036854775807) :
    Calls Tryd.prog 28 #[.string s, .int .i64 (most : Int)] w (IsRet (.tuple #[.int .i64 (numV most s.data.toList : Nat), .bool (numOK most s.data.toList)]) w) := by
  have hl : s.data.toList.length = s.size := (Lib.size_eq s).symm
  have fin : numOK most s.data.toList = false → IsRet (.tuple #[.int .i64 (numV most s.data.toList : Nat), .bool (numOK most s.data.toList)]) w (.returned (.tuple #[.int .i64 0, .bool false])) w := fun h => ⟨by rw [numOK_no h, h]; rfl, rfl⟩
  have FIN := Lib.hid fin
  clear fin
  by_cases h1 : s.size < 1
  · have d1 : decide (s.size < 1) = true := decide_eq_true h1
    have hn := Lib.hid (numOK_short (most := most) (l := s.data.toList) (by omega))
    go_enter Tryd.func28, Tryd.ntmps28
    go_wp2
    go_ret2
    exact FIN.out hn.out
  have d1 : decide (s.size < 1) = false := decide_eq_false h1
  by_cases h2 : most < s.size
  · have d2 : decide (most < s.size) = true := decide_eq_true h2
    have hn := Lib.hid (numOK_long (most := most) (l := s.data.toList) (by omega))
    go_enter Tryd.func28, Tryd.ntmps28
    go_wp2
    go_ret2
    exact FIN.out hn.out
  have d2 : decide (most < s.size) = false := decide_eq_false h2
  have hz0 : 0 < s.size := by omega
  have g0 := getB s 0 hz0
  by_cases h3 : 1 < s.size ∧ s[0]'hz0 = 48
  · have d3 := h3.1
    have e4 : ((((s[0]'hz0).toNat : Nat) : Int) == 48) = true := by rw [h3.2]; rfl
    have e3 : (s[0]'hz0).toNat = 48 := by rw [h3.2]; rfl
    have hn := Lib.hid (numOK_zero (most := most) (l := s.data.toList) (by omega) (by rw [g0, h3.2]))
    clear h3 g0
    go_enter Tryd.func28, Tryd.ntmps28
    go_wp2
    go_ret2
    exact FIN.out hn.out
  have hg : ¬ (1 < s.data.toList.length ∧ s.data.toList[0]? = some 48) := by rw [hl, g0]; intro h; exact h3 ⟨h.1, Option.some.inj h.2⟩
  have hgood := Lib.hid (numOK_good (most := most) (l := s.data.toList) (by omega) (by omega) hg)
  clear hg g0
  have hT : DiRel s w (.int .i64 0) (.int .i64 0) w := ⟨0, rfl, by omega, rfl, rfl, rfl⟩
  have d4 : ¬ 1 < s.size ∨ (1 < s.size ∧ ((((s[0]'hz0).toNat : Nat) : Int) == 48) = false) := by
    by_cases h4 : 1 < s.size
    · exact .inr ⟨h4, beq_eq_false_iff_ne.2 fun e => h3 ⟨h4, UInt8.toNat_inj.1 (by show _ = 48; omega)⟩⟩
    · exact .inl h4
  clear h3
  have body : ∀ (K : True), True := fun _ => trivial
  clear body
  go_enter Tryd.func28, Tryd.ntmps28
  rcases d4 with d4 | ⟨d4, d5⟩
  all_goals
    go_wp2
    go_loopw [6, 7] (fun v6 v7 wr => DiRel s w v6 v7 wr) (fun _ v _ => s.size - viN v)
    case atStart => exact hT
    case round =>
      clear hT
      obtain ⟨i, rfl, hi, hall, rfl, rfl⟩ := hrel
      by_cases hlt : i < s.size
      · have dl : decide (i < s.size) = true := decide_eq_true hlt
        have gi := getB s i hlt
        have hv := valFrom_le _ 0 hall
        rw [List.length_take] at hv
        have hp := pow_small (i := min i s.data.toList.length) (by omega)
        have hv2 : valFrom 0 (s.data.toList.take i) < 100000000000000000 := by omega
        clear hv hp
        have hb256 := (s[i]'hlt).toNat_lt
        have hnext : ∀ h : digB (s[i]'hlt) = true, (s.data.toList.take (i + 1)).all digB = true ∧ valFrom 0 (s.data.toList.take (i + 1)) = valFrom 0 (s.data.toList.take i) * 10 + ((s[i]'hlt).toNat - 48) := fun h => by
          rw [List.take_add_one, gi, Option.toList_some, List.all_append, hall, valFrom_snoc]
          exact ⟨by simp [h], rfl⟩
        have HN := Lib.hid hnext
        clear hnext
        have HB := Lib.hid fun h => numOK_bad (most := most) (all_not gi h)
        clear gi
        by_cases c1 : (s[i]'hlt).toNat < 48
        · have dc : decide ((s[i]'hlt).toNat < 48) = true := decide_eq_true c1
          have hb : digB (s[i]'hlt) = false := decide_eq_false (by omega)
          have hn := Lib.hid (HB.out hb)
          clear hb
          go_wp2
          go_ret2
          exact FIN.out hn.out
        · have dc : decide ((s[i]'hlt).toNat < 48) = false := decide_eq_false c1
          by_cases c2 : 57 < (s[i]'hlt).toNat
          · have dc2 : decide (57 < (s[i]'hlt).toNat) = true := decide_eq_true c2
            have hb : digB (s[i]'hlt) = false := decide_eq_false (by omega)
            have hn := Lib.hid (HB.out hb)
            clear hb
            go_wp2
            go_ret2
            exact FIN.out hn.out
          · have dc2 : decide (57 < (s[i]'hlt).toNat) = false := decide_eq_false c2
            have hb : digB (s[i]'hlt) = true := decide_eq_true (by omega)
            have HN2 := Lib.hid (HN.out hb)
            clear hb
            go_wp2
            go_roundw
            case rel =>
              refine ⟨i + 1, by go_num, by omega, HN2.out.1, ?_, rfl⟩
              rw [HN2.out.2]
              congr 1
              omega
            case measure => simp [viN]; omega
      · have hie : i = s.size := by omega
        have dl : decide (i < s.size) = false := decide_eq_false hlt
        rw [List.take_of_length_le (by omega)] at hall ⊢
        go_wp2
        go_ret2
        exact ⟨by unfold numV; rw [if_pos (hgood.out hall), hgood.out hall]; rfl, rfl⟩

set_option maxHeartbeats 3200000 in
set_option maxRecDepth 100000 in
theorem number_spec (s : ByteArray) (hs : s.size ≤ 9223372036854775807) (o : Own w R) :
    Calls Tryd.prog 22 #[.string s] w (Ret (.tuple #[.int .i64 (numV 5 s.data.toList : Nat), .bool (numOK 5 s.data.toList)]) R w) := by
  have hl : s.data.toList.length = s.size := (Lib.size_eq s).symm
  have fin : ∀ wr, Own wr R → Calm w wr → numOK 5 s.data.toList = false → Ret (.tuple #[.int .i64 (numV 5 s.data.toList : Nat), .bool (numOK 5 s.data.toList)]) R w (.returned (.tuple #[.int .i64 0, .bool false])) wr := fun wr o c h => ⟨by rw [numOK_no h, h]; rfl, o, c⟩
  have FIN := Lib.hid fin
  clear fin
  by_cases h1 : s.size < 1
  · have d1 : decide (s.size < 1) = true := decide_eq_true h1
    have hn := Lib.hid (numOK_short (most := 5) (l := s.data.toList) (by omega))
    go_enter Tryd.func22, Tryd.ntmps22
    go_wp2
    go_ret2
    exact FIN.out _ o (Calm.refl _) hn.out
  have d1 : decide (s.size < 1) = false := decide_eq_false h1
  by_cases h2 : 5 < s.size
  · have d2 : decide (5 < s.size) = true := decide_eq_true h2
    have hn := Lib.hid (numOK_long (most := 5) (l := s.data.toList) (by omega))
    go_enter Tryd.func22, Tryd.ntmps22
    go_wp2
    go_ret2
    exact FIN.out _ o (Calm.refl _) hn.out
  have d2 : decide (5 < s.size) = false := decide_eq_false h2
  have hz0 : 0 < s.size := by omega
  have g0 := getB s 0 hz0
  by_cases h3 : 1 < s.size ∧ s[0]'hz0 = 48
  · have d3 := h3.1
    have e4 : ((((s[0]'hz0).toNat : Nat) : Int) == 48) = true := by rw [h3.2]; rfl
    have e3 : (s[0]'hz0).toNat = 48 := by rw [h3.2]; rfl
    have hn := Lib.hid (numOK_zero (most := 5) (l := s.data.toList) (by omega) (by rw [g0, h3.2]))
    clear h3 g0
    go_enter Tryd.func22, Tryd.ntmps22
    go_wp2
    go_ret2
    exact FIN.out _ o (Calm.refl _) hn.out
  have hg : ¬ (1 < s.data.toList.length ∧ s.data.toList[0]? = some 48) := by rw [hl, g0]; intro h; exact h3 ⟨h.1, Option.some.inj h.2⟩
  have hgood := Lib.hid (numOK_good (most := 5) (l := s.data.toList) (by omega) (by omega) hg)
  clear hg g0
  have d4 : ¬ 1 < s.size ∨ (1 < s.size ∧ ((((s[0]'hz0).toNat : Nat) : Int) == 48) = false) := by
    by_cases h4 : 1 < s.size
    · exact .inr ⟨h4, beq_eq_false_iff_ne.2 fun e => h3 ⟨h4, UInt8.toNat_inj.1 (by show _ = 48; omega)⟩⟩
    · exact .inl h4
  clear h3
  have hT := Any.strings_Trim_laid Tryd.laysTr (by kernel_rfl) s ⟨#[48, 49, 50, 51, 52, 53, 54, 55, 56, 57]⟩ w hs (by decide) (ascii_of_all (by decide))
  have ht : (⟨(Lib.trimS s.data.toList (⟨#[48, 49, 50, 51, 52, 53, 54, 55, 56, 57]⟩ : ByteArray).data.toList).toArray⟩ : ByteArray) = mkB (Lib.trimS s.data.toList digs) := rfl
  rw [ht] at hT
  clear ht
  have hem := emptyB (mkB (Lib.trimS s.data.toList digs))
  rw [mkB_data] at hem
  have htr := trimS_digs s.data.toList
  generalize mkB (Lib.trimS s.data.toList digs) = t at *
  have hna := Any.strconv_Atoi Tryd.laysAt s
  by_cases ha : s.data.toList.all digB = true
  · have hok := hgood.out ha
    have hat := fun w1 => hna (valFrom 0 s.data.toList : Nat) (by omega) (atoi_num ha (by omega)) w1
    have HV := Lib.hid (show (.tuple #[.int .i64 (numV 5 s.data.toList : Nat), .bool (numOK 5 s.data.toList)] : Value) = .tuple #[.int .i64 (valFrom 0 s.data.toList : Nat), .bool true] by unfold numV; rw [if_pos hok, hok])
    rw [decide_eq_true (htr.2 ha)] at hem
    generalize valFrom 0 s.data.toList = v at *
    have HAT := Lib.hid hat
    clear hna hat ha hok htr hgood
    rcases d4 with d4 | ⟨d4, d5⟩
    all_goals
      go_enter Tryd.func22, Tryd.ntmps22
      go_wp2_with fail
      refine hT.mono ?_
      rintro e1 w1 ⟨rfl, hB⟩
      have o1 := o.keepBelow hB
      go_wp2_with fail
      refine (HAT.out w1).mono ?_
      rintro e2 w2 ⟨rfl, q, rfl⟩
      have hB2 := Lib.bytesWorld_below w1 (Tryd.laysAt_ren.t 5) q
      go_wp2
      go_quiet (fail)
      go_wp2
      go_ret2
      exact ⟨by rw [HV.out]; rfl, (o1.keepBelow hB2).drewN _, ((Calm.ofBelow hB).trans (Calm.ofBelow hB2)).dn _⟩
  · have hna : s.data.toList.all digB = false := by simpa using ha
    have hn := Lib.hid (numOK_bad (most := 5) hna)
    rw [decide_eq_false (fun e => ha (htr.1 e))] at hem
    clear hna ha htr hgood
    rcases d4 with d4 | ⟨d4, d5⟩
    all_goals
      go_enter Tryd.func22, Tryd.ntmps22
      go_wp2_with fail
      refine hT.mono ?_
      rintro e1 w1 ⟨rfl, hB⟩
      have o1 := o.keepBelow hB
      go_wp2
      go_ret2
      exact FIN.out _ o1 (Calm.ofBelow hB) hn.out
end
end Go.Proofs.YtbldanhjbnpdiaaDoor
