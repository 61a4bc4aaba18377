/- RecordFormat: the walk. -/
import Derived.Test.YtlccalkikjfimaaDoorRcE
import Derived.Laws.Rows
namespace Go.Proofs.YtlccalkikjfimaaDoor
open Go.RowKit
open SP
section
variable {W w w' : World} {R : List SP} {cb : Nat}
def rvN : Value → Nat
  | .int _ n => n.toNat
  | _ => 0
theorem dec_small {n : Nat} (h : n < 10) : Lib.decDigits n = dig n := by rw [Lib.decDigits, dif_pos h]; rfl
theorem itoa_small {n : Nat} (h : n < 10) : Lib.itoa (n : Int) = dig n := by rw [itoa_nonneg (by omega), Int.toNat_natCast, dec_small h]
theorem awake28_line : fmtS ⟨3, 3, 1, 7, 0, 2⟩ = [51, 32, 115, 101, 110, 100, 32, 49, 32, 55, 32, 48, 32, 50] := by
  unfold fmtS
  rw [if_pos (by decide)]
  unfold lineOf
  rw [show Lib.itoa (⟨3, 3, 1, 7, 0, 2⟩ : Rec).slot = dig 3 from itoa_small (n := 3) (by omega), show Lib.itoa (⟨3, 3, 1, 7, 0, 2⟩ : Rec).flow = dig 1 from itoa_small (n := 1) (by omega),
    show Lib.itoa (⟨3, 3, 1, 7, 0, 2⟩ : Rec).packet = dig 7 from itoa_small (n := 7) (by omega), show Lib.itoa (⟨3, 3, 1, 7, 0, 2⟩ : Rec).why = dig 0 from itoa_small (n := 0) (by omega),
    show Lib.itoa (⟨3, 3, 1, 7, 0, 2⟩ : Rec).value = dig 2 from itoa_small (n := 2) (by omega)]
  rfl
set_option maxHeartbeats 1600000 in
theorem awake28_spec (hT : TabsR W) (o : Own w (old W :: R)) : Calls Tryd.prog 10 #[] w (Ret (.bool true) (old W :: R) w) := by
  have hf := recFormat_spec ⟨3, 3, 1, 7, 0, 2⟩ hT o
  rw [awake28_line, show fmtE ⟨3, 3, 1, 7, 0, 2⟩ = 0 from by decide] at hf
  unfold recV at hf
  go_enter Tryd.func10, Tryd.ntmps10
  go_wp2_with fail
  refine hf.mono ?_
  rintro e1 w1 ⟨rfl, o1, k1⟩
  unfold mkB
  go_wp2
  go_ret
  exact ⟨by simp, o1, k1⟩
def RfRel (W : World) (cb bx : Nat) (r : Rec) (v : Value) (wr : World) : Prop :=
  ∃ i : Nat, v = .int .i64 (i : Int) ∧ i ≤ 8 ∧ Own wr [Ch W cb (10 * i), old W, cel bx 24 (recC r)] ∧ Calm W wr
set_option maxHeartbeats 6400000 in
set_option maxRecDepth 100000 in
theorem recordFormat_walk (a0 : Option Addr) (len0 cap0 : Nat) (z0 : List Int) (r : Rec) (w : World) (w0 : IsRow .i64 w a0 len0 cap0 z0) (hT : TabsR w) :
    Calls Tryd.prog 3 #[.slice a0 len0 cap0, recV r] w fun e w' => e = .returned (.bool true) ∧ Below w.heap.size w w' := by
  have oW := (Own.start w).alloc (.cells (recC r).toArray 24)
  have HT := Lib.hid hT
  clear hT
  obtain ⟨s, k, f, p, y, u⟩ := r
  unfold recV
  unfold recC at oW
  dsimp only at oW ⊢
  go_enter Tryd.func3, Tryd.ntmps3
  go_wp2_with fail
  refine (genNew_spec a0 len0 cap0 z0 (w0) (oW.up 1)).mono ?_
  rintro e1 v1 ⟨cb, rfl, o1, k1⟩
  have hT1 : RfRel w cb w.heap.size ⟨s, k, f, p, y, u⟩ (.int .i64 0) v1 := ⟨0, rfl, by omega, o1, k1.al⟩
  generalize w.heap.size = bx at *
  go_wp2
  go_loopw [6] (fun v wr => RfRel w cb bx ⟨s, k, f, p, y, u⟩ v wr) (fun v _ => 8 - rvN v)
  case atStart => exact hT1
  case round =>
    clear hT1 o1 k1 oW
    obtain ⟨i, rfl, hi, oR, kR⟩ := hrel
    by_cases hlt : i < 8
    · go_wp2_with fail
      refine (genRecord_spec (10 * i) (by omega) oR).mono ?_
      rintro e2 w2 ⟨r2, rfl, o2, k2⟩
      go_wp2_with fail
      refine (formats_spec r2 HT.out (o2.up 1)).mono ?_
      rintro e3 w3 ⟨rfl, o3, k3⟩
      go_wp2
      go_roundw
      case rel => exact ⟨i + 1, by go_num, by omega, Ch.upTo (N := 10 * i + 8) (M := 10 * (i + 1)) (by omega) (o3.up 1), kR.trans (k2.trans k3)⟩
      case measure => simp [rvN]; omega
    · have hf := formats_spec ⟨s, k, f, p, y, u⟩ HT.out (oR.up 1)
      unfold recV at hf
      dsimp only at hf
      have c0 := (oR.up 2).cell 0
      have c1 := (oR.up 2).cell 1
      have c2 := (oR.up 2).cell 2
      have c3 := (oR.up 2).cell 3
      have c4 := (oR.up 2).cell 4
      have c5 := (oR.up 2).cell 5
      dsimp only at c0 c1 c2 c3 c4 c5
      go_wp2_with fail
      refine hf.mono ?_
      rintro e3 w3 ⟨rfl, o3, k3⟩
      go_wp2_with fail
      refine (awake28_spec HT.out o3).mono ?_
      rintro e4 w4 ⟨rfl, o4, k4⟩
      go_wp2
      go_ret
      exact ⟨rfl, o4.below (kR.trans (k3.trans k4))⟩
end
end Go.Proofs.YtlccalkikjfimaaDoor
