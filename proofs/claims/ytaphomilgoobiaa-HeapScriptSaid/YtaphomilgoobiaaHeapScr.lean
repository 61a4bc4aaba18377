/- The law HeapScript. -/
import Derived.Test.YtaphomilgoobiaaRef4g
namespace Go.Proofs.Ytaphomilgoobiaa
open Go.RowKit
open SP
def ScrRel4 (W : World) (b rb cb : Nat) (cap : Int) (v : Value) (wr : World) : Prop :=
  ∃ (i : Nat) (L : List (Int × Int)), v = .int .i64 (i : Int) ∧ i ≤ 30 ∧ (L.length : Int) ≤ cap ∧ Own wr [HeapA b cap L, RefH rb cap L, Ch W cb (1 + 7 * i), old W] ∧ Calm W wr
set_option maxHeartbeats 6400000 in
set_option maxRecDepth 100000 in
theorem heapScript_walk (a0 : Option Addr) (len0 cap0 : Nat) (z0 : List Int) (cp : Int) (w : World) (w0 : IsRow .i64 w a0 len0 cap0 z0) :
    Calls Try.prog 6 #[.slice a0 len0 cap0, .int .i64 cp] w fun e w' => e = .returned (.bool true) ∧ Below w.heap.size w w' := by
  have oW := Own.start w
  go_enter Try.func6, Try.ntmps6
  go_wp2_with fail
  refine (genNew_spec a0 len0 cap0 z0 w0 oW).mono ?_
  rintro e1 v1 ⟨cb, rfl, o1, k1⟩
  go_wp2_with fail
  refine (next_spec w cb 0 6 _ _ (by omega) (by omega) (by omega) o1).mono ?_
  rintro e2 v2 ⟨x, hx0, hx1, rfl, o2, k2⟩
  have hwr : IntKind.i64.wrap (1 + x) = 1 + x := by rw [IntKind.wrap_i64]; omega
  obtain ⟨cap, hcap⟩ : ∃ cap, cap = 1 + x := ⟨_, rfl⟩
  rw [← hcap] at hwr
  have hc1 : 1 ≤ cap := by omega
  have hc6 : cap ≤ 6 := by omega
  have hwr2 : IntKind.i64.wrap (1 + x) = cap := by rw [← hwr, hcap]
  clear hwr hcap
  go_wp2_with fail
  refine (heapNew_spec cap (by omega) (by omega) o2).mono ?_
  rintro e3 v3 ⟨b, rfl, o3, k3⟩
  go_wp2_with fail
  refine (refNew4_spec cap (by omega) (by omega) o3).mono ?_
  rintro e4 v4 ⟨rb, rfl, o4, k4⟩
  have o4a := HeapA.new (o4.up 1)
  have hT : ScrRel4 w b rb cb cap (.int .i64 0) v4 := ⟨0, [], rfl, by omega, by simp; omega, o4a, k1.trans (k2.trans (k3.trans k4))⟩
  clear hwr2
  go_wp2
  go_loopw [11] (fun v wr => ScrRel4 w b rb cb cap v wr) (fun v _ => 30 - (intOf v).toNat)
  case atStart => exact hT
  case round =>
    clear hT o4a o4 o3 o2 o1 k1 k2 k3 k4
    obtain ⟨i, L, rfl, hi, hL, oR, kR⟩ := hrel
    by_cases hlt : i < 30
    · go_upto_region 10 with fail
      go_cut [62] (fun v62 wc => ∃ L2 : List (Int × Int), v62 = .bool false ∧ (L2.length : Int) ≤ cap ∧ Own wc [HeapA b cap L2, RefH rb cap L2, Ch w cb (1 + 7 * i + 7), old w] ∧ Calm w wc)
      case first =>
        go_region_law (first
          | (go_simp; go_at_call 21; refine (act4_spec (1 + 7 * i) (by omega) hc6 hL oR.drew).mono ?_; rintro e5 w5 ⟨L2, hL2, rfl, o5, k5⟩; obtain ⟨a5, c5, o5r⟩ := RefH.iff.1 (o5.up 1); have f5 := o5r.cell 1)
          | (go_simp; go_at_call 11; refine (lenA_spec o5).mono ?_; rintro e6 w6 ⟨rfl, o6, k6⟩; obtain ⟨a6, c6, o6r⟩ := RefH.iff.1 (o6.up 1); have f6 := o6r.cell 1)
          | (go_simp; go_at_call 16; refine (entriesA_spec (L := L2) (by omega) o6).mono ?_; rintro e7 w7 ⟨a7, c7, rfl, o7, k7⟩)
          | (go_simp; go_at_call 22; refine (entriesR_spec (L := L2) (by omega) (o7.up 2)).mono ?_; rintro e8 w8 ⟨a8, c8, rfl, o8, k8⟩)
          | (go_simp; go_at_call 19; refine (equal_spec (L := sortE L2) (n := L2.length) (by rw [sortE_len]) (by omega) (o8.re [2, 0, 1, 3, 4])).mono ?_; rintro e9 w9 ⟨rfl, o9, k9⟩))
        all_goals go_wp2
        all_goals go_meet
        all_goals exact ⟨L2, rfl, hL2, o9.re [0, 1, 3, 2, 4, 5] 2, kR.trans (Calm.trans ⟨k5.os, k5.tape, k5.output⟩ (k6.trans (k7.trans (k8.trans k9))))⟩
      case rest =>
        obtain ⟨L2, rfl, hL2, o9, k9⟩ := hcut
        go_wp2
        go_roundw
        case rel => exact ⟨i + 1, L2, by go_num, by omega, hL2, ((o9.re [2, 0, 1, 3])).re [1, 2, 0, 3], k9⟩
        case measure => simp [intOf]; omega
    · by_cases hc : 1 ≤ cp ∧ cp ≤ 4096
      · obtain ⟨hcp1, hcp2⟩ := hc
        go_wp2_with fail
        refine (heapNew_spec cp hcp1 hcp2 oR).mono ?_
        rintro e5 v5 ⟨b5, rfl, o5, k5⟩
        go_wp2_with fail
        refine (awake4_spec o5).mono ?_
        rintro e6 v6 ⟨rfl, o6, k6⟩
        go_wp2
        go_ret
        exact ⟨rfl, (o6.up 4).below (kR.trans (k5.trans k6))⟩
      · by_cases hlo : cp < 1
        · have hlo2 : ¬ (1 ≤ cp) := by omega
          go_wp2_with fail
          refine (heapNew_bad cp (by omega) oR).mono ?_
          rintro e5 v5 ⟨rfl, o5, k5⟩
          clear hc
          go_wp2_with fail
          refine (awake4_spec o5).mono ?_
          rintro e6 v6 ⟨rfl, o6, k6⟩
          go_wp2
          go_ret
          exact ⟨rfl, (o6.up 3).below (kR.trans (k5.trans k6))⟩
        · have hlo2 : 1 ≤ cp := by omega
          have hhi : ¬ (cp ≤ 4096) := by omega
          go_wp2_with fail
          refine (heapNew_bad cp (by omega) oR).mono ?_
          rintro e5 v5 ⟨rfl, o5, k5⟩
          clear hc
          go_wp2_with fail
          refine (awake4_spec o5).mono ?_
          rintro e6 v6 ⟨rfl, o6, k6⟩
          go_wp2
          go_ret
          exact ⟨by simp [hhi], (o6.up 3).below (kR.trans (k5.trans k6))⟩
end Go.Proofs.Ytaphomilgoobiaa
