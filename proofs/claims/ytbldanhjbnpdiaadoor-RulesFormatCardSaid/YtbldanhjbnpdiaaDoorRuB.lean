/- Rules: ports of both sides; the reference's words. -/
import Derived.Test.YtbldanhjbnpdiaaDoorRuA
import Derived.OwnWalk
namespace Go.Proofs.YtbldanhjbnpdiaaDoor
open Go.RowKit
open Go.Shelf
open SP
section
variable {W w w' : World} {R : List SP}
theorem Tryd.elemSt : ElemT Tryd.prog 32 9 1 16 := ElemT.mk' Tryd.underlying32 (z := .string ⟨#[]⟩) (by kernel_rfl) (by kernel_rfl) (by omega)
/-- The library's greatest length: some number. -/
def MaxV (w : World) : Prop := ∃ m, w.cell? ⟨Tryd.laysCut_ren.g 1, 0, none⟩ = some (.int .i64 m)
def portsV (l : List UInt8) : Value := .tuple #[.int .i64 (portF l : Nat), .int .i64 (portL l : Nat), .bool (portOK l)]
theorem litB (s : ByteArray) (l : List UInt8) : (s.toList == l) = decide (s.data.toList = l) := by rw [ByteArray.toList_eq, Bool.eq_iff_iff, beq_iff_eq, decide_eq_true_eq]
theorem starB (s : ByteArray) : (s.toList == [42]) = decide (s.data.toList = [42]) := litB s _

set_option maxHeartbeats 3200000 in
set_option maxRecDepth 100000 in
theorem ports_spec (s : ByteArray) (hs : s.size < 4294967281) (hm : MaxV W) (o : Own w (old W :: R)) :
    Calls Tryd.prog 23 #[.string s] w (Ret (portsV s.data.toList) (old W :: R) w) := by
  have hst := starB s
  by_cases h1 : s.data.toList = [42]
  · rw [decide_eq_true h1] at hst
    have hv : portsV s.data.toList = .tuple #[.int .i64 0, .int .i64 65535, .bool true] := by unfold portsV portF portL portOK; rw [if_pos h1, if_pos h1, decide_eq_true h1]; rfl
    rw [hv]
    clear hv h1
    go_enter Tryd.func23, Tryd.ntmps23
    go_wp2
    go_ret3
    exact ⟨rfl, o, Calm.refl _⟩
  rw [decide_eq_false h1] at hst
  obtain ⟨m, hm⟩ := hm
  have hC := Any.strings_Cut Tryd.laysCut s ⟨#[45]⟩ m w hs (o.old_cell hm)
  have hlen : (cutP s.data.toList).1.length ≤ s.size ∧ (cutP s.data.toList).2.1.length ≤ s.size := by
    have hl : s.data.toList.length = s.size := (Lib.size_eq s).symm
    unfold cutP Lib.cut
    split
    · dsimp only
      rw [List.length_take, List.length_drop]; omega
    · dsimp only [List.length_nil]; omega
  have hC2 : Calls Tryd.prog 37 #[.string s, .string ⟨#[45]⟩] w fun e w' => e = .returned (.tuple #[.string (mkB (cutP s.data.toList).1), .string (mkB (cutP s.data.toList).2.1), .bool (cutP s.data.toList).2.2]) ∧ ∃ n, w' = w.drewN n := hC
  have na := Lib.hid fun (w1 : World) (o1 : Own w1 (old W :: R)) => number_spec (mkB (cutP s.data.toList).1) (by rw [mkB_size]; omega) o1
  have nb := Lib.hid fun (w1 : World) (o1 : Own w1 (old W :: R)) => number_spec (mkB (cutP s.data.toList).2.1) (by rw [mkB_size]; omega) o1
  have hv : portsV s.data.toList = .tuple #[.int .i64 (numV 5 (cutP s.data.toList).1 : Nat), .int .i64 ((if (cutP s.data.toList).2.2 then numV 5 (cutP s.data.toList).2.1 else numV 5 (cutP s.data.toList).1 : Nat) : Nat), .bool (numOK 5 (cutP s.data.toList).1 && (!(cutP s.data.toList).2.2 || numOK 5 (cutP s.data.toList).2.1))] := by
    unfold portsV portF portL portOK; rw [if_neg h1, if_neg h1, decide_eq_false h1]; rfl
  rw [hv]
  simp only [mkB_data] at na nb
  generalize mkB (cutP s.data.toList).1 = A at *
  generalize mkB (cutP s.data.toList).2.1 = B at *
  generalize numV 5 (cutP s.data.toList).1 = va at *
  generalize numV 5 (cutP s.data.toList).2.1 = vb at *
  generalize numOK 5 (cutP s.data.toList).1 = ka at *
  generalize numOK 5 (cutP s.data.toList).2.1 = kb at *
  generalize (cutP s.data.toList).2.2 = two at *
  clear hC hlen hv h1
  cases two with
  | false =>
    go_enter Tryd.func23, Tryd.ntmps23
    go_wp2_with fail
    refine hC2.mono ?_
    rintro e1 w1 ⟨rfl, n, rfl⟩
    go_wp2_with fail
    refine (na.out _ (o.drewN n)).mono ?_
    rintro e2 w2 ⟨rfl, o2, k2⟩
    go_wp2
    go_ret3
    exact ⟨by simp, o2, ⟨k2.os, k2.tape, k2.output⟩⟩
  | true =>
    go_enter Tryd.func23, Tryd.ntmps23
    go_wp2_with fail
    refine hC2.mono ?_
    rintro e1 w1 ⟨rfl, n, rfl⟩
    go_wp2_with fail
    refine (na.out _ (o.drewN n)).mono ?_
    rintro e2 w2 ⟨rfl, o2, k2⟩
    go_wp2_with fail
    refine (nb.out _ o2).mono ?_
    rintro e3 w3 ⟨rfl, o3, k3⟩
    cases ka <;>
    · go_wp2
      go_ret3
      exact ⟨by simp, o3, ⟨(k2.trans k3).os, (k2.trans k3).tape, (k2.trans k3).output⟩⟩

def PtRel (s : ByteArray) (w : World) (v : Value) (wr : World) : Prop := ∃ i : Nat, v = .int .i64 (i : Int) ∧ i ≤ s.size ∧ (∀ k, k < i → s.data.toList[k]? ≠ some 45) ∧ wr = w
set_option maxHeartbeats 3200000 in
set_option maxRecDepth 100000 in
theorem refPorts_spec (s : ByteArray) (hs : s.size < 4294967281) :
    Calls Tryd.prog 29 #[.string s] w (IsRet (portsV s.data.toList) w) := by
  have hst := starB s
  have hl : s.data.toList.length = s.size := (Lib.size_eq s).symm
  by_cases h1 : s.data.toList = [42]
  · rw [decide_eq_true h1] at hst
    have hv : portsV s.data.toList = .tuple #[.int .i64 0, .int .i64 65535, .bool true] := by unfold portsV portF portL portOK; rw [if_pos h1, if_pos h1, decide_eq_true h1]; rfl
    rw [hv]
    clear hv h1
    go_enter Tryd.func29, Tryd.ntmps29
    go_wp2
    go_ret3
    exact ⟨rfl, rfl⟩
  rw [decide_eq_false h1] at hst
  have hv : portsV s.data.toList = .tuple #[.int .i64 (numV 5 (cutP s.data.toList).1 : Nat), .int .i64 ((if (cutP s.data.toList).2.2 then numV 5 (cutP s.data.toList).2.1 else numV 5 (cutP s.data.toList).1 : Nat) : Nat), .bool (numOK 5 (cutP s.data.toList).1 && (!(cutP s.data.toList).2.2 || numOK 5 (cutP s.data.toList).2.1))] := by
    unfold portsV portF portL portOK; rw [if_neg h1, if_neg h1, decide_eq_false h1]; rfl
  have HV := Lib.hid hv
  clear hv h1
  have hT : PtRel s w (.int .i64 0) w := ⟨0, rfl, by omega, fun k hk => by omega, rfl⟩
  go_enter Tryd.func29, Tryd.ntmps29
  go_wp2
  go_loopw [5] (fun v wr => PtRel s w v wr) (fun v _ => s.size - viN v)
  case atStart => exact hT
  case round =>
    clear hT
    obtain ⟨i, rfl, hi, hno, rfl⟩ := hrel
    by_cases hlt : i < s.size
    · have dl : decide (i < s.size) = true := decide_eq_true hlt
      have gi := getB s i hlt
      by_cases c1 : (s[i]'hlt).toNat = 45
      · have e4 : ((((s[i]'hlt).toNat : Nat) : Int) == 45) = true := by rw [c1]; rfl
        have hb : s[i]'hlt = 45 := UInt8.toNat_inj.1 c1
        rw [hb] at gi
        have hc := cut_at s.data.toList i gi hno
        have x1 : (s.extract 0 i).data.toList = s.data.toList.take i := Lib.extract_from_zero s i
        have x2 : (s.extract (i + 1) s.size).data.toList = s.data.toList.drop (i + 1) := Lib.extract_to_end s (i + 1)
        have y1 : (s.extract 0 i).size ≤ s.size := by rw [ByteArray.size_extract]; omega
        have y2 : (s.extract (i + 1) s.size).size ≤ s.size := by rw [ByteArray.size_extract]; omega
        have n1 := Lib.hid fun w1 : World => digits_spec (w := w1) (s.extract 0 i) 5 (by omega) (by omega)
        have n2 := Lib.hid fun w1 : World => digits_spec (w := w1) (s.extract (i + 1) s.size) 5 (by omega) (by omega)
        rw [x1] at n1
        rw [x2] at n2
        rw [hc] at HV
        dsimp only at HV
        generalize numV 5 (s.data.toList.take i) = va at *
        generalize numV 5 (s.data.toList.drop (i + 1)) = vb at *
        generalize numOK 5 (s.data.toList.take i) = ka at *
        generalize numOK 5 (s.data.toList.drop (i + 1)) = kb at *
        clear hc gi x1 x2 hb c1 hno
        go_wp2_with fail
        refine (n1.out _).mono ?_
        rintro e1 w1 ⟨rfl, rfl⟩
        go_wp2_with fail
        refine (n2.out _).mono ?_
        rintro e2 w2 ⟨rfl, rfl⟩
        cases ka <;>
        · go_wp2
          go_ret3
          exact ⟨by rw [HV.out]; simp, rfl⟩
      · have e4 : ((((s[i]'hlt).toNat : Nat) : Int) == 45) = false := beq_eq_false_iff_ne.2 (by omega)
        go_wp2
        go_roundw
        case rel =>
          refine ⟨i + 1, by go_num, by omega, fun k hk => ?_, rfl⟩
          by_cases hk2 : k = i
          · subst hk2
            rw [gi]
            intro e
            rw [Option.some.inj e] at c1
            exact c1 rfl
          · exact hno k (by omega)
        case measure => simp [viN]; omega
    · have hie : i = s.size := by omega
      subst hie
      have hc := cut_not s.data.toList (fun k hk => hno k (by omega))
      have n1 := Lib.hid fun w1 : World => digits_spec (w := w1) s 5 (by omega) (by omega)
      rw [hc] at HV
      dsimp only at HV
      generalize numV 5 s.data.toList = va at *
      generalize numOK 5 s.data.toList = ka at *
      go_wp2_with fail
      refine (n1.out _).mono ?_
      rintro e1 w1 ⟨rfl, rfl⟩
      go_wp2
      go_ret3
      exact ⟨by rw [HV.out]; simp, rfl⟩
end
end Go.Proofs.YtbldanhjbnpdiaaDoor
