/- The laws of the ledger: 'awake', LagScript's walk. -/
import Derived.Test.YtalkmeclkjnjnaaLagE
namespace Go.Proofs.Ytalkmeclkjnjnaa
open Go.RowKit
open SP
section
variable {P : SP} {W w w' : World} {R : List SP} {b rb cb N : Nat} {L : List Tg}
def awL1 : List Tg := [⟨0, 1, 0⟩]
def awL2 : List Tg := [⟨0, 1, 0⟩, ⟨1, 2, 0⟩]
def awL3 : List Tg := [⟨0, 1, 0⟩, ⟨1, 2, 0⟩, ⟨2, 1, 0⟩]
def awL4 : List Tg := [⟨0, 1, 100⟩, ⟨1, 2, -100⟩, ⟨2, 1, 0⟩]
def awL5 : List Tg := [⟨0, 1, 50⟩, ⟨2, 1, -50⟩]
set_option maxHeartbeats 3200000 in
theorem awake22_spec (o : Own w R) : Calls Try.prog 16 #[] w (Ret (.bool true) R w) := by
  have q1 : nJoin [] 0 1 = (0, awL1) := by decide
  have q2 : nJoin awL1 1 2 = (0, awL2) := by decide
  have q3 : nJoin awL2 2 1 = (0, awL3) := by decide
  have q4 : nMove awL3 0 1 100 = (0, awL4) := by decide
  have q5 : nLeave awL4 1 = ((-100, 0), awL5) := by decide
  have q6 : lagV awL5 0 = .tuple #[.int .i64 50, .bool true] := rfl
  have q7 : lagV awL5 2 = .tuple #[.int .i64 (-50), .bool true] := rfl
  go_enter Try.func16, Try.ntmps16
  go_wp2_with fail
  refine (lagNew_spec o).mono ?_
  rintro e1 w1 ⟨b, rfl, o1, k1⟩
  have h1 := lagJoin_spec 0 1 o1
  rw [q1] at h1; dsimp only at h1
  go_wp2_with fail
  refine h1.mono ?_
  rintro e2 w2 ⟨rfl, o2, k2⟩
  have h2 := lagJoin_spec 1 2 o2
  rw [q2] at h2; dsimp only at h2
  go_wp2_with fail
  refine h2.mono ?_
  rintro e3 w3 ⟨rfl, o3, k3⟩
  have h3 := lagJoin_spec 2 1 o3
  rw [q3] at h3; dsimp only at h3
  go_wp2_with fail
  refine h3.mono ?_
  rintro e4 w4 ⟨rfl, o4, k4⟩
  have h4 := lagMove_spec 0 1 100 (by omega) o4
  rw [q4] at h4; dsimp only at h4
  go_wp2_with fail
  refine h4.mono ?_
  rintro e5 w5 ⟨rfl, o5, k5⟩
  have h5 := lagLeave_spec 1 (by omega) o5
  rw [q5] at h5; dsimp only at h5
  go_wp2_with fail
  refine h5.mono ?_
  rintro e6 w6 ⟨rfl, o6, k6⟩
  have h6 := lagLag_spec 0 o6
  rw [q6] at h6
  go_wp2_with fail
  refine h6.mono ?_
  rintro e7 w7 ⟨rfl, o7, k7⟩
  have h7 := lagLag_spec 2 o7
  rw [q7] at h7
  go_wp2_with fail
  refine h7.mono ?_
  rintro e8 w8 ⟨rfl, o8, k8⟩
  go_wp2
  go_ret
  exact ⟨rfl, o8.drop, k1.trans (k2.trans (k3.trans (k4.trans (k5.trans (k6.trans (k7.trans k8))))))⟩

def Scr22 (W : World) (cb b rb : Nat) (v : Value) (wr : World) : Prop :=
  ∃ (i N : Nat) (P : SP) (L : List Tg), v = .int .i64 (i : Int) ∧ i ≤ 50 ∧ N ≤ i ∧
    Own wr [LagR b N L, LedR P rb L, P, Ch W cb (30 * i), old W] ∧ Calm W wr
def Scr22b (W : World) (cb b rb : Nat) (N M : Nat) (L : List Tg) (P : SP) (v : Value) (wr : World) : Prop :=
  ∃ (f : Int), v = .int .i64 f ∧ -1 ≤ f ∧ f ≤ 7 ∧ Own wr [LagR b N L, LedR P rb L, P, Ch W cb M, old W] ∧ Calm W wr
def fOf : Value → Int
  | .int _ n => n
  | _ => 0
theorem lagV_any (L : List Tg) (f : Int) : ∃ (x : Int) (z : Bool), lagV L f = .tuple #[.int .i64 x, .bool z] := by
  unfold lagV
  cases fget L f with
  | none => exact ⟨0, false, rfl⟩
  | some t => exact ⟨t.s, true, rfl⟩
theorem side1 {N : Nat} (h : LgOk N L) (hN : (N : Int) ≤ 1000000) : ∀ t ∈ L, decide (0 < IntKind.i64.wrap (t.s * 1)) = laggingP t.s := fun t ht => by
  have := h.lag ht
  rw [Int.mul_one, show IntKind.i64.wrap t.s = t.s from by rw [IntKind.wrap_i64]; omega]; rfl
theorem side2 {N : Nat} (h : LgOk N L) (hN : (N : Int) ≤ 1000000) : ∀ t ∈ L, decide (0 < IntKind.i64.wrap (t.s * -1)) = leadingP t.s := fun t ht => by
  have := h.lag ht
  rw [show IntKind.i64.wrap (t.s * -1) = - t.s from by rw [IntKind.wrap_i64]; omega]
  unfold leadingP
  congr 1
  simp only [eq_iff_iff]
  omega
set_option maxHeartbeats 6400000 in
set_option maxRecDepth 100000 in
theorem lagScript_walk (a0 : Option Addr) (len0 cap0 : Nat) (z0 : List Int) (w : World) (w0 : IsRow .i64 w a0 len0 cap0 z0) :
    Calls Try.prog 5 #[.slice a0 len0 cap0] w fun e w' => e = .returned (.bool true) ∧ Below w.heap.size w w' := by
  have oW := Own.start w
  go_enter Try.func5, Try.ntmps5
  go_wp2_with fail
  refine (genNew_spec a0 len0 cap0 z0 w0 oW).mono ?_
  rintro e1 v1 ⟨cb, rfl, o1, k1⟩
  go_wp2_with fail
  refine (lagNew_spec o1).mono ?_
  rintro e2 v2 ⟨b, rfl, o2, k2⟩
  have o3 := LedR.start (P := SP.pu True) (o2.alloc (.cells #[.slice none 0 0] 48))
  have hT : Scr22 w cb b v2.heap.size (.int .i64 0) (v2.alloc (.cells #[.slice none 0 0] 48)) := ⟨0, 0, SP.pu True, [], rfl, by omega, by omega, (Own.pu.2 ⟨trivial, o3⟩).re [2, 1, 0, 3, 4], (k1.trans k2).trans ⟨rfl, rfl, rfl⟩⟩
  obtain ⟨rb, hrb⟩ : ∃ rb, v2.heap.size = rb := ⟨_, rfl⟩
  rw [hrb] at hT
  clear o3
  go_wp2
  clear hrb
  go_loopw [6] (fun v wr => Scr22 w cb b rb v wr) (fun v _ => 50 - (ivOf v).toNat)
  case atStart => exact hT
  case round =>
    clear hT o2 k2 o1 k1
    obtain ⟨i, N, P, L, rfl, hi, hN, oR, kR⟩ := hrel
    by_cases hlt : i < 50
    · go_wp2_with fail
      refine (act22_spec (by omega) (30 * i) (by omega) oR).mono ?_
      rintro e3 w3 ⟨P1, L1, hE1, hS1, rfl, o3, k3⟩
      have hok := LagR.ok o3
      have hlen := hok.ok.len
      have HOK := Lib.hid hok
      clear hS1 hok
      go_wp2_with fail
      refine (lagParts_spec o3).mono ?_
      rintro e4 w4 ⟨a4, c4, rfl, o4, k4⟩
      go_wp2_with fail
      refine (ledParts_spec (by omega) (o4.re [2, 3, 0, 1, 4, 5])).mono ?_
      rintro e5 w5 ⟨a5, c5, rfl, o5, k5⟩
      go_wp2_with fail
      refine (equalPt_spec (F := ptsOf L1) (ptsOf_len L1).symm (by omega) (o5.re [3, 0, 4, 1, 2, 5, 6])).mono ?_
      rintro e6 w6 ⟨rfl, o6, k6⟩
      have o7 := o6.re [0, 1, 2, 3, 4, 5, 6] 2
      have K7 := kR.trans (k3.trans (k4.trans (k5.trans k6)))
      clear o6 o5 o4 o3 oR k3 k4 k5 k6 kR
      have hsl := sideL_len laggingP L1
      have hsl2 := sideL_len leadingP L1
      go_wp2_with fail
      refine (lagLagging_spec o7).mono ?_
      rintro e8 w8 ⟨a8, c8, rfl, o8, k8⟩
      go_wp2_with fail
      refine (ledSide_spec laggingP 1 (side1 HOK.out (by omega)) (by omega) (o8.re [2, 3, 0, 1, 4, 5])).mono ?_
      rintro e9 w9 ⟨a9, c9, rfl, o9, k9⟩
      go_wp2_with fail
      refine (equalI_spec (F := sideL laggingP L1) rfl (by omega) (o9.re [3, 0, 4, 1, 2, 5, 6])).mono ?_
      rintro e10 w10 ⟨rfl, o10, k10⟩
      have o11 := o10.re [0, 1, 2, 3, 4, 5, 6] 2
      have K11 := K7.trans (k8.trans (k9.trans k10))
      clear o10 o9 o8 o7 k8 k9 k10 K7
      go_wp2_with fail
      refine (lagLeading_spec o11).mono ?_
      rintro e12 w12 ⟨a12, c12, rfl, o12, k12⟩
      go_wp2_with fail
      refine (ledSide_spec leadingP (-1) (side2 HOK.out (by omega)) (by omega) (o12.re [2, 3, 0, 1, 4, 5])).mono ?_
      rintro e13 w13 ⟨a13, c13, rfl, o13, k13⟩
      go_wp2_with fail
      refine (equalI_spec (F := sideL leadingP L1) rfl (by omega) (o13.re [3, 0, 4, 1, 2, 5, 6])).mono ?_
      rintro e14 w14 ⟨rfl, o14, k14⟩
      have o15 := o14.re [0, 1, 2, 3, 4, 5, 6] 2
      have K15 := K11.trans (k12.trans (k13.trans k14))
      clear o14 o13 o12 o11 k12 k13 k14 K11
      go_wp2_with fail
      refine (lagSum_spec (by omega) o15).mono ?_
      rintro e16 w16 ⟨rfl, o16, k16⟩
      go_wp2_with fail
      refine (ledSum_spec HOK.out (by omega) (o16.re [1, 2, 0, 3, 4])).mono ?_
      rintro e17 w17 ⟨rfl, o17, k17⟩
      have hT2 : Scr22b w cb b rb (N + 1) (30 * (i + 1)) L1 P1 (.int .i64 (-1)) w17 := ⟨-1, rfl, by omega, by omega, (Ch.upTo (M := 30 * (i + 1)) (by omega) (o17.re [3])).re [3, 1, 2, 0, 4], K15.trans (k16.trans k17)⟩
      clear o15 o16 o17 k16 k17 K15 hsl hsl2
      generalize sumS L1 = sm at *
      go_wp2
      go_loopw [7] (fun v wr => Scr22b w cb b rb (N + 1) (30 * (i + 1)) L1 P1 v wr) (fun v _ => (7 - fOf v).toNat)
      case atStart => exact hT2
      case round =>
        clear hT2
        obtain ⟨f, rfl, hf0, hf1, oF, kF⟩ := hrel
        by_cases hf7 : f < 7
        · obtain ⟨x, z, hxz⟩ := lagV_any L1 f
          have h1 := lagLag_spec f oF
          rw [hxz] at h1
          go_wp2_with fail
          refine h1.mono ?_
          rintro e18 w18 ⟨rfl, o18, k18⟩
          have h2 := ledLag_spec f (by omega) (o18.re [1, 2, 0, 3, 4])
          rw [hxz] at h2
          go_wp2_with fail
          refine h2.mono ?_
          rintro e19 w19 ⟨rfl, rfl⟩
          clear hxz h1 h2
          go_wp2
          go_roundw
          case rel => exact ⟨f + 1, by go_num, by omega, by omega, o18, kF.trans k18⟩
          case measure => simp [fOf]; omega
        · go_wp2
          go_roundw
          case rel => exact ⟨i + 1, N + 1, P1, L1, by go_num, by omega, by omega, oF, kF⟩
          case measure => simp [ivOf]; omega
    · go_wp2_with fail
      refine (awake22_spec oR).mono ?_
      rintro e3 w3 ⟨rfl, o3, k3⟩
      go_wp2
      go_ret
      exact ⟨rfl, (o3.up 4).below (kR.trans k3)⟩
end
end Go.Proofs.Ytalkmeclkjnjnaa
