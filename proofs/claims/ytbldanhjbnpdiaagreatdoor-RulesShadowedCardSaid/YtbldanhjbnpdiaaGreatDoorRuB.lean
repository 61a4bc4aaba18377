/- Rules: ports of both sides; the reference's words. -/
import Derived.Test.YtbldanhjbnpdiaaGreatDoorRuA
import Derived.OwnWalk
namespace Go.Proofs.YtbldanhjbnpdiaaGreatDoor
open Go.RowKit
open Go.Shelf
open SP
section
variable {W w w' : World} {R : List SP}
theorem Tryz.elemSt : ElemT Tryz.prog 54 9 1 16 := ElemT.mk' Tryz.underlying54 (z := .string ⟨#[]⟩) (by kernel_rfl) (by kernel_rfl) (by omega)
/-- The library's greatest length: some number. -/
def MaxV (w : World) : Prop := ∃ m, w.cell? ⟨Tryz.laysCut_ren.g 1, 0, none⟩ = some (.int .i64 m)
def portsV (l : List UInt8) : Value := .tuple #[.int .i64 (portF l : Nat), .int .i64 (portL l : Nat), .bool (portOK l)]
theorem starB (s : ByteArray) : (s.toList == [42]) = decide (s.data.toList = [42]) := litB s _

set_option maxHeartbeats 3200000 in
set_option maxRecDepth 100000 in
theorem ports_spec (s : ByteArray) (hs : s.size < 4294967281) (hm : MaxV W) (o : Own w (old W :: R)) :
    Calls Tryz.prog 37 #[.string s] w (Ret (portsV s.data.toList) (old W :: R) w) := by
  have hst := starB s
  by_cases h1 : s.data.toList = [42]
  · rw [decide_eq_true h1] at hst
    have hv : portsV s.data.toList = .tuple #[.int .i64 0, .int .i64 65535, .bool true] := by unfold portsV portF portL portOK; rw [if_pos h1, if_pos h1, decide_eq_true h1]; rfl
    rw [hv]
    clear hv h1
    go_enter Tryz.func37, Tryz.ntmps37
    go_wp2
    go_ret3
    exact ⟨rfl, o, Calm.refl _⟩
  rw [decide_eq_false h1] at hst
  obtain ⟨m, hm⟩ := hm
  have hC := Any.strings_Cut Tryz.laysCut s ⟨#[45]⟩ m w hs (o.old_cell hm)
  have hlen : (cutP s.data.toList).1.length ≤ s.size ∧ (cutP s.data.toList).2.1.length ≤ s.size := by
    have hl : s.data.toList.length = s.size := (Lib.size_eq s).symm
    unfold cutP Lib.cut
    split
    · dsimp only
      rw [List.length_take, List.length_drop]; omega
    · dsimp only [List.length_nil]; omega
  have hC2 : Calls Tryz.prog 49 #[.string s, .string ⟨#[45]⟩] w fun e w' => e = .returned (.tuple #[.string (mkB (cutP s.data.toList).1), .string (mkB (cutP s.data.toList).2.1), .bool (cutP s.data.toList).2.2]) ∧ ∃ n, w' = w.drewN n := hC
  have na := Lib.hid fun (w1 : World) (o1 : Own w1 (old W :: R)) => number_spec (mkB (cutP s.data.toList).1) (by rw [mkB_size]; omega) o1
  have nb := Lib.hid fun (w1 : World) (o1 : Own w1 (old W :: R)) => number_spec (mkB (cutP s.data.toList).2.1) (by rw [mkB_size]; omega) o1
  have hv : portsV s.data.toList = .tuple #[.int .i64 (numV 5 (cutP s.data.toList).1 : Nat), .int .i64 ((if (cutP s.data.toList).2.2 then numV 5 (cutP s.data.toList).2.1 else numV 5 (cutP s.data.toList).1 : Nat) : Nat), .bool (numOK 5 (cutP s.data.toList).1 && (!(cutP s.data.toList).2.2 || numOK 5 (cutP s.data.toList).2.1))] := by
    unfold portsV portF portL portOK; rw [if_neg h1, if_neg h1, decide_eq_false h1]; rfl
  rw [hv]
  simp only [mkB_data] at na nb
  generalize mkB (cutP s.data.toList).1 = A at *
  generalize mkB (cutP s.data.toList).2.1 = B at *
  generalize numV 5 (cutP s.data.toList).1 = va at *
  generalize numV 5 (cutP s.data.toList).2.1 = vb at *
  generalize numOK 5 (cutP s.data.toList).1 = ka at *
  generalize numOK 5 (cutP s.data.toList).2.1 = kb at *
  generalize (cutP s.data.toList).2.2 = two at *
  clear hC hlen hv h1
  cases two with
  | false =>
    go_enter Tryz.func37, Tryz.ntmps37
    go_wp2_with fail
    refine hC2.mono ?_
    rintro e1 w1 ⟨rfl, n, rfl⟩
    go_wp2_with fail
    refine (na.out _ (o.drewN n)).mono ?_
    rintro e2 w2 ⟨rfl, o2, k2⟩
    go_wp2
    go_ret3
    exact ⟨by simp, o2, ⟨k2.os, k2.tape, k2.output⟩⟩
  | true =>
    go_enter Tryz.func37, Tryz.ntmps37
    go_wp2_with fail
    refine hC2.mono ?_
    rintro e1 w1 ⟨rfl, n, rfl⟩
    go_wp2_with fail
    refine (na.out _ (o.drewN n)).mono ?_
    rintro e2 w2 ⟨rfl, o2, k2⟩
    go_wp2_with fail
    refine (nb.out _ o2).mono ?_
    rintro e3 w3 ⟨rfl, o3, k3⟩
    cases ka <;>
    · go_wp2
      go_ret3
      exact ⟨by simp, o3, ⟨(k2.trans k3).os, (k2.trans k3).tape, (k2.trans k3).output⟩⟩

def PtRel (s : ByteArray) (w : World) (v : Value) (wr : World) : Prop := ∃ i : Nat, v = .int .i64 (i : Int) ∧ i ≤ s.size ∧ (∀ k, k < i → s.data.toList[k]? ≠ some 45) ∧ wr = w
end
end Go.Proofs.YtbldanhjbnpdiaaGreatDoor
