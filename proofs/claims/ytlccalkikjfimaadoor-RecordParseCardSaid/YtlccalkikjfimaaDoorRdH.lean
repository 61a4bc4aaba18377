/- RecordParse: the walk. -/
import Derived.Test.YtlccalkikjfimaaDoorRdG
import Derived.Test.YtlccalkikjfimaaDoorRcF
import Derived.Laws.Rows
namespace Go.Proofs.YtlccalkikjfimaaDoor
open Go.RowKit
open Go.Shelf
open SP
set_option maxHeartbeats 12800000 in
set_option maxRecDepth 100000 in
theorem recordParse_walk (a0 : Option Addr) (len0 cap0 : Nat) (z0 : List Int) (p : ByteArray) (w : World) (w0 : IsRow .i64 w a0 len0 cap0 z0) (_ : p.size ≤ maxLen) (hT : TabsR w) (hm : MaxV w) (he : ErrW w) :
    Calls Tryd.prog 5 #[.slice a0 len0 cap0, .string p] w fun e w' => e = .returned (.bool true) ∧ Below w.heap.size w w' := by
  have oW := Own.start w
  have HP := Lib.hid fun (w1 : World) (R : List SP) (s : ByteArray) (hs : s.size ≤ 1000000) (o1 : Own w1 (old w :: R)) => parses28_spec s hs hm he hT o1
  have HA := Lib.hid fun (w1 : World) (R : List SP) (o1 : Own w1 (old w :: R)) => awake28_spec hT o1
  clear hm he hT
  go_enter Tryd.func5, Tryd.ntmps5
  go_wp2_with fail
  refine (genNew_spec a0 len0 cap0 z0 (w0) oW).mono ?_
  rintro e1 v1 ⟨cb, rfl, o1, k1⟩
  have hT1 : ∃ i : Nat, (Value.int .i64 0 : Value) = .int .i64 (i : Int) ∧ i ≤ 8 ∧ Own v1 [Ch w cb (13 * i), old w] ∧ Calm w v1 := ⟨0, rfl, by omega, o1, k1⟩
  go_wp2
  go_loopw [6] (fun v wr => ∃ i : Nat, v = .int .i64 (i : Int) ∧ i ≤ 8 ∧ Own wr [Ch w cb (13 * i), old w] ∧ Calm w wr) (fun v _ => 8 - viN v)
  case atStart => exact hT1
  case round =>
    clear hT1 o1 k1 oW
    obtain ⟨i, rfl, hi, oR, kR⟩ := hrel
    by_cases hlt : i < 8
    · have dl : decide (i < 8) = true := decide_eq_true hlt
      go_wp2_with fail
      refine (line_spec (13 * i) (by omega) oR).mono ?_
      rintro e2 w2 ⟨s, hs, rfl, o2, k2⟩
      go_wp2_with fail
      refine (HP.out _ _ s (by omega) o2.swap).mono ?_
      rintro e3 w3 ⟨rfl, o3, k3⟩
      go_wp2
      go_roundw
      case rel => exact ⟨i + 1, by go_num, by omega, Ch.upTo (N := 13 * i + 13) (M := 13 * (i + 1)) (by omega) o3.swap, kR.trans (k2.trans k3)⟩
      case measure => simp [viN]; omega
    · have dl : decide (i < 8) = false := decide_eq_false hlt
      by_cases hb : 300 < p.size
      · have db : decide (300 < p.size) = true := decide_eq_true hb
        go_wp2_with fail
        refine (HA.out _ _ oR.swap).mono ?_
        rintro e4 w4 ⟨rfl, o4, k4⟩
        go_wp2
        go_ret
        exact ⟨rfl, o4.below (kR.trans k4)⟩
      · have db : decide (300 < p.size) = false := decide_eq_false hb
        go_wp2_with fail
        refine (HP.out _ _ p (by omega) oR.swap).mono ?_
        rintro e3 w3 ⟨rfl, o3, k3⟩
        go_wp2_with fail
        refine (HA.out _ _ o3).mono ?_
        rintro e4 w4 ⟨rfl, o4, k4⟩
        go_wp2
        go_ret
        exact ⟨rfl, o4.below (kR.trans (k3.trans k4))⟩
end Go.Proofs.YtlccalkikjfimaaDoor
