/- Rules: numbers and ports of both sides. -/
import Derived.Test.YtbldanhjbnpdiaaGreatDoorRuP
import Derived.Test.YtbldanhjbnpdiaaGreatDoorBt
import Derived.Test.YtbldanhjbnpdiaaGreatDoorLabF
import Derived.Test.YtbldanhjbnpdiaaGreatDoorBel
import Derived.Test.YtbldanhjbnpdiaaGreatDoorApp
import Derived.Test.YtbldanhjbnpdiaaGreatDoorShelfU
import Derived.Lib.AtoiErrMem
namespace Go.Proofs.YtbldanhjbnpdiaaGreatDoor
open Go.RowKit
open Go.Shelf
open SP
section
variable {W w w' : World} {R : List SP}
def DiRel (s : ByteArray) (w : World) (v6 v7 : Value) (wr : World) : Prop :=
  ∃ i : Nat, v7 = .int .i64 (i : Int) ∧ i ≤ s.size ∧ (s.data.toList.take i).all digB = true ∧ v6 = .int .i64 (valFrom 0 (s.data.toList.take i) : Nat) ∧ wr = w
theorem w64_in (n : Int) (h : -9223372036854775808 ≤ n ∧ n ≤ 9223372036854775807) : wrap64 n = n := by unfold wrap64; omega
theorem pow_small {i : Nat} (h : i ≤ 17) : 10 ^ i ≤ 100000000000000000 := Nat.le_trans (Nat.pow_le_pow_right (by decide) h) (by decide)

set_option maxHeartbeats 3200000 in
set_option maxRecDepth 100000 in
theorem number_spec (s : ByteArray) (hs : s.size ≤ 9223372036854775807) (o : Own w R) :
    Calls Tryz.prog 36 #[.string s] w (Ret (.tuple #[.int .i64 (numV 5 s.data.toList : Nat), .bool (numOK 5 s.data.toList)]) R w) := by
  have hl : s.data.toList.length = s.size := (Lib.size_eq s).symm
  have fin : ∀ wr, Own wr R → Calm w wr → numOK 5 s.data.toList = false → Ret (.tuple #[.int .i64 (numV 5 s.data.toList : Nat), .bool (numOK 5 s.data.toList)]) R w (.returned (.tuple #[.int .i64 0, .bool false])) wr := fun wr o c h => ⟨by rw [numOK_no h, h]; rfl, o, c⟩
  have FIN := Lib.hid fin
  clear fin
  by_cases h1 : s.size < 1
  · have d1 : decide (s.size < 1) = true := decide_eq_true h1
    have hn := Lib.hid (numOK_short (most := 5) (l := s.data.toList) (by omega))
    go_enter Tryz.func36, Tryz.ntmps36
    go_wp2
    go_ret2
    exact FIN.out _ o (Calm.refl _) hn.out
  have d1 : decide (s.size < 1) = false := decide_eq_false h1
  by_cases h2 : 5 < s.size
  · have d2 : decide (5 < s.size) = true := decide_eq_true h2
    have hn := Lib.hid (numOK_long (most := 5) (l := s.data.toList) (by omega))
    go_enter Tryz.func36, Tryz.ntmps36
    go_wp2
    go_ret2
    exact FIN.out _ o (Calm.refl _) hn.out
  have d2 : decide (5 < s.size) = false := decide_eq_false h2
  have hz0 : 0 < s.size := by omega
  have g0 := getB s 0 hz0
  by_cases h3 : 1 < s.size ∧ s[0]'hz0 = 48
  · have d3 := h3.1
    have e4 : ((((s[0]'hz0).toNat : Nat) : Int) == 48) = true := by rw [h3.2]; rfl
    have e3 : (s[0]'hz0).toNat = 48 := by rw [h3.2]; rfl
    have hn := Lib.hid (numOK_zero (most := 5) (l := s.data.toList) (by omega) (by rw [g0, h3.2]))
    clear h3 g0
    go_enter Tryz.func36, Tryz.ntmps36
    go_wp2
    go_ret2
    exact FIN.out _ o (Calm.refl _) hn.out
  have hg : ¬ (1 < s.data.toList.length ∧ s.data.toList[0]? = some 48) := by rw [hl, g0]; intro h; exact h3 ⟨h.1, Option.some.inj h.2⟩
  have hgood := Lib.hid (numOK_good (most := 5) (l := s.data.toList) (by omega) (by omega) hg)
  clear hg g0
  have d4 : ¬ 1 < s.size ∨ (1 < s.size ∧ ((((s[0]'hz0).toNat : Nat) : Int) == 48) = false) := by
    by_cases h4 : 1 < s.size
    · exact .inr ⟨h4, beq_eq_false_iff_ne.2 fun e => h3 ⟨h4, UInt8.toNat_inj.1 (by show _ = 48; omega)⟩⟩
    · exact .inl h4
  clear h3
  have hT := Any.strings_Trim_laid Tryz.laysTr (by kernel_rfl) s ⟨#[48, 49, 50, 51, 52, 53, 54, 55, 56, 57]⟩ w hs (by decide) (ascii_of_all (by decide))
  have ht : (⟨(Lib.trimS s.data.toList (⟨#[48, 49, 50, 51, 52, 53, 54, 55, 56, 57]⟩ : ByteArray).data.toList).toArray⟩ : ByteArray) = mkB (Lib.trimS s.data.toList digs) := rfl
  rw [ht] at hT
  clear ht
  have hem := emptyB (mkB (Lib.trimS s.data.toList digs))
  rw [mkB_data] at hem
  have htr := trimS_digs s.data.toList
  generalize mkB (Lib.trimS s.data.toList digs) = t at *
  have hna := Any.strconv_Atoi Tryz.laysAt s
  by_cases ha : s.data.toList.all digB = true
  · have hok := hgood.out ha
    have hat := fun w1 => hna (valFrom 0 s.data.toList : Nat) (by omega) (atoi_num ha (by omega)) w1
    have HV := Lib.hid (show (.tuple #[.int .i64 (numV 5 s.data.toList : Nat), .bool (numOK 5 s.data.toList)] : Value) = .tuple #[.int .i64 (valFrom 0 s.data.toList : Nat), .bool true] by unfold numV; rw [if_pos hok, hok])
    rw [decide_eq_true (htr.2 ha)] at hem
    generalize valFrom 0 s.data.toList = v at *
    have HAT := Lib.hid hat
    clear hna hat ha hok htr hgood
    rcases d4 with d4 | ⟨d4, d5⟩
    all_goals
      go_enter Tryz.func36, Tryz.ntmps36
      go_wp2_with fail
      refine hT.mono ?_
      rintro e1 w1 ⟨rfl, hB⟩
      have o1 := o.keepBelow hB
      go_wp2_with fail
      refine (HAT.out w1).mono ?_
      rintro e2 w2 ⟨rfl, q, rfl⟩
      have hB2 := Lib.bytesWorld_below w1 (Tryz.laysAt_ren.t 5) q
      go_wp2
      go_quiet (fail)
      go_wp2
      go_ret2
      exact ⟨by rw [HV.out]; rfl, (o1.keepBelow hB2).drewN _, ((Calm.ofBelow hB).trans (Calm.ofBelow hB2)).dn _⟩
  · have hna : s.data.toList.all digB = false := by simpa using ha
    have hn := Lib.hid (numOK_bad (most := 5) hna)
    rw [decide_eq_false (fun e => ha (htr.1 e))] at hem
    clear hna ha htr hgood
    rcases d4 with d4 | ⟨d4, d5⟩
    all_goals
      go_enter Tryz.func36, Tryz.ntmps36
      go_wp2_with fail
      refine hT.mono ?_
      rintro e1 w1 ⟨rfl, hB⟩
      have o1 := o.keepBelow hB
      go_wp2
      go_ret2
      exact FIN.out _ o1 (Calm.ofBelow hB) hn.out
end
end Go.Proofs.YtbldanhjbnpdiaaGreatDoor
