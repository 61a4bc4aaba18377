/- RecordFormat: the walk. -/
import Derived.Test.YtlccalkikjfimaaGreatDoorRcE
import Derived.Laws.Rows
namespace Go.Proofs.YtlccalkikjfimaaGreatDoor
open Go.RowKit
open SP
section
variable {W w w' : World} {R : List SP} {cb : Nat}
def rvN : Value → Nat
  | .int _ n => n.toNat
  | _ => 0
theorem dec_small {n : Nat} (h : n < 10) : Lib.decDigits n = dig n := by rw [Lib.decDigits, dif_pos h]; rfl
theorem itoa_small {n : Nat} (h : n < 10) : Lib.itoa (n : Int) = dig n := by rw [itoa_nonneg (by omega), Int.toNat_natCast, dec_small h]
theorem awake28_line : fmtS ⟨3, 3, 1, 7, 0, 2⟩ = [51, 32, 115, 101, 110, 100, 32, 49, 32, 55, 32, 48, 32, 50] := by
  unfold fmtS
  rw [if_pos (by decide)]
  unfold lineOf
  rw [show Lib.itoa (⟨3, 3, 1, 7, 0, 2⟩ : Rec).slot = dig 3 from itoa_small (n := 3) (by omega), show Lib.itoa (⟨3, 3, 1, 7, 0, 2⟩ : Rec).flow = dig 1 from itoa_small (n := 1) (by omega),
    show Lib.itoa (⟨3, 3, 1, 7, 0, 2⟩ : Rec).packet = dig 7 from itoa_small (n := 7) (by omega), show Lib.itoa (⟨3, 3, 1, 7, 0, 2⟩ : Rec).why = dig 0 from itoa_small (n := 0) (by omega),
    show Lib.itoa (⟨3, 3, 1, 7, 0, 2⟩ : Rec).value = dig 2 from itoa_small (n := 2) (by omega)]
  rfl
set_option maxHeartbeats 1600000 in
theorem awake28_spec (hT : TabsR W) (o : Own w (old W :: R)) : Calls Tryz.prog 10 #[] w (Ret (.bool true) (old W :: R) w) := by
  have hf := recFormat_spec ⟨3, 3, 1, 7, 0, 2⟩ hT o
  rw [awake28_line, show fmtE ⟨3, 3, 1, 7, 0, 2⟩ = 0 from by decide] at hf
  unfold recV at hf
  go_enter Tryz.func10, Tryz.ntmps10
  go_wp2_with fail
  refine hf.mono ?_
  rintro e1 w1 ⟨rfl, o1, k1⟩
  unfold mkB
  go_wp2
  go_ret
  exact ⟨by simp, o1, k1⟩
def RfRel (W : World) (cb bx : Nat) (r : Rec) (v : Value) (wr : World) : Prop :=
  ∃ i : Nat, v = .int .i64 (i : Int) ∧ i ≤ 8 ∧ Own wr [Ch W cb (10 * i), old W, cel bx 39 (recC r)] ∧ Calm W wr
end
end Go.Proofs.YtlccalkikjfimaaGreatDoor
