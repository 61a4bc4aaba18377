/- The laws of the ledger: equal lists, both ledgers side by side, 'act', 'awake'. -/
import Derived.Test.YtalkmeclkjnjnaaLedD
import Derived.Test.YtalkmeclkjnjnaaGenX
import Derived.Laws.Rows
namespace Go.Proofs.Ytalkmeclkjnjnaa
open Go.RowKit
open SP
section
variable {P : SP} {W w w' : World} {R : List SP} {b rb cb N : Nat} {L : List Tg}
def EqRelL (n : Nat) (w : World) (v : Value) (wr : World) : Prop := ∃ (i q : Nat), v = .int .i64 (i : Int) ∧ i ≤ n ∧ wr = w.drewN q
set_option maxHeartbeats 1600000 in
set_option maxRecDepth 100000 in
theorem equalPt_spec {a1 a2 : Option Addr} {n c1 c2 : Nat} {F : List (Int × Int)} (hn : n = F.length) (hn2 : n ≤ 1000) (o : Own w (slc 34 2 a1 n c1 (flat part F) :: slc 34 2 a2 n c2 (flat part F) :: R)) :
    Calls Try.prog 22 #[.slice a1 n c1, .slice a2 n c2] w (Ret (.bool true) (slc 34 2 a1 n c1 (flat part F) :: slc 34 2 a2 n c2 (flat part F) :: R) w) := by
  have HN := Lib.hid hn
  clear hn
  go_enter Try.func22, Try.ntmps22
  go_wp2
  go_loopw [5] (fun v wr => EqRelL n w v wr) (fun v _ => n - (ivOf v).toNat)
  case atStart => exact ⟨0, 0, rfl, by omega, rfl⟩
  case round =>
    obtain ⟨i, q, rfl, hi, rfl⟩ := hrel
    by_cases hlt : i < n
    · obtain ⟨f, hf⟩ : ∃ f, F[i]? = some f := ⟨_, List.getElem?_eq_getElem (by rw [← HN.out]; exact hlt)⟩
      obtain ⟨g1, hg1, d0, d1⟩ := part_cells o hf (by omega)
      obtain ⟨g2, hg2, f0, f1⟩ := part_cells (o.up 1) hf (by omega)
      subst hg1
      subst hg2
      go_wp2
      go_quiet (fail)
      go_wp2
      go_roundw
      case rel => exact ⟨i + 1, _, by go_num, by omega, rfl⟩
      case measure => simp [ivOf]; omega
    · go_wp2
      go_ret
      exact ⟨rfl, o.drewN q, ⟨rfl, rfl, rfl⟩⟩
set_option maxHeartbeats 1600000 in
set_option maxRecDepth 100000 in
theorem equalI_spec {a1 a2 : Option Addr} {n c1 c2 : Nat} {F : List Int} (hn : n = F.length) (hn2 : n ≤ 1000) (o : Own w (slc 3 1 a1 n c1 (i64s F) :: slc 3 1 a2 n c2 (i64s F) :: R)) :
    Calls Try.prog 27 #[.slice a1 n c1, .slice a2 n c2] w (Ret (.bool true) (slc 3 1 a1 n c1 (i64s F) :: slc 3 1 a2 n c2 (i64s F) :: R) w) := by
  have HN := Lib.hid hn
  clear hn
  go_enter Try.func27, Try.ntmps27
  go_wp2
  go_loopw [5] (fun v wr => EqRelL n w v wr) (fun v _ => n - (ivOf v).toNat)
  case atStart => exact ⟨0, 0, rfl, by omega, rfl⟩
  case round =>
    obtain ⟨i, q, rfl, hi, rfl⟩ := hrel
    by_cases hlt : i < n
    · obtain ⟨f, hf⟩ : ∃ f, F[i]? = some f := ⟨_, List.getElem?_eq_getElem (by rw [← HN.out]; exact hlt)⟩
      obtain ⟨g1, hg1, hc1, _, _⟩ := o.slc_cell (by omega)
      obtain ⟨g2, hg2, hc2, _, _⟩ := (o.up 1).slc_cell (by omega)
      subst hg1
      subst hg2
      have d0 := hc1 i (.int .i64 f) (by unfold i64s; rw [List.getElem?_map, hf]; rfl)
      have f0 := hc2 i (.int .i64 f) (by unfold i64s; rw [List.getElem?_map, hf]; rfl)
      clear hc1 hc2
      go_wp2
      go_quiet (fail)
      go_wp2
      go_roundw
      case rel => exact ⟨i + 1, _, by go_num, by omega, rfl⟩
      case measure => simp [ivOf]; omega
    · go_wp2
      go_ret
      exact ⟨rfl, o.drewN q, ⟨rfl, rfl, rfl⟩⟩

def ActL (b rb N : Nat) (P : SP) (L : List Tg) (R : List SP) (w : World) (e : Ending) (w' : World) : Prop :=
  ∃ P' L', PExtT P P' ∧ (sumS L = 0 → sumS L' = 0) ∧ Ret (.bool true) (LagR b (N + 1) L' :: LedR P' rb L' :: P' :: R) w e w'
def FwL (W : World) (b rb cb N : Nat) (L : List Tg) (P : SP) (M : Nat) (R : List SP) (w : World) (v7 v8 v9 : Value) (wc : World) : Prop :=
  ∃ f g x : Int, v7 = .int .i64 f ∧ v8 = .int .i64 g ∧ v9 = .int .i64 x ∧ Own wc (Ch W cb M :: old W :: LagR b N L :: LedR P rb L :: P :: R) ∧ Calm w wc
set_option maxHeartbeats 6400000 in
set_option maxRecDepth 100000 in
theorem act22_spec (hN : (N : Int) ≤ 1000000) (M : Nat) (hM : (M : Int) ≤ 800000000000) (o : Own w (LagR b N L :: LedR P rb L :: P :: Ch W cb M :: old W :: R)) :
    Calls Try.prog 26 #[.pointer (some ⟨cb, 0, none⟩), .pointer (some ⟨b, 0, none⟩), .pointer (some ⟨rb, 0, none⟩)] w (ActL b rb N P L (Ch W cb (M + 10) :: old W :: R) w) := by
  have HOK := Lib.hid (LagR.ok o)
  go_enter Try.func26, Try.ntmps26
  go_wp2_with fail
  refine (next_spec W cb M 6 _ _ (by omega) (by omega) (by omega) (o.re [3, 4, 0, 1, 2])).mono ?_
  rintro e1 w1 ⟨f, hf0, hf1, rfl, o1, k1⟩
  go_wp2_with fail
  refine (next_spec W cb (M + 1) 6 _ _ (by omega) (by omega) (by omega) o1).mono ?_
  rintro e2 w2 ⟨g, hg0, hg1, rfl, o2, k2⟩
  go_wp2_with fail
  refine (genWeight_spec (W := W) (b := cb) (M + 2) (by omega) o2).mono ?_
  rintro e3 w3 ⟨x, hx0, hx1, rfl, o3, k3⟩
  go_wp2_with fail
  refine (next_spec W cb (M + 3) 25 _ _ (by omega) (by omega) (by omega) o3).mono ?_
  rintro e4 w4 ⟨y, hy0, hy1, rfl, o4, k4⟩
  have K4 := k1.trans (k2.trans (k3.trans k4))
  clear o o1 o2 o3 k1 k2 k3 k4
  go_upto_block 0 with fail
  go_cut [7, 8, 9] (fun v7 v8 v9 wc => FwL W b rb cb N L P (M + 5) R w v7 v8 v9 wc)
  case first =>
    by_cases h0 : y = 0
    · subst h0
      have oA := ((o4.alloc (.cells #[.int .i64 (-1), .int .i64 32] 3)).up 2).up 2
      go_wp2_with fail
      refine (next_spec W cb (M + 4) 2 _ _ (by omega) (by omega) (by omega) oA).mono ?_
      rintro e4 w4 ⟨z, hz0, hz1, rfl, o5, k5⟩
      obtain ⟨j, rfl⟩ : ∃ j : Nat, z = (j : Int) := ⟨z.toNat, by omega⟩
      obtain ⟨q, hq⟩ : ∃ q : Int, [Value.int .i64 (-1), .int .i64 32][j]? = some (.int .i64 q) := by
        have : j = 0 ∨ j = 1 := by omega
        rcases this with rfl | rfl <;> exact ⟨_, rfl⟩
      have c4 := Own.cell (T := 3) (vs := [.int .i64 (-1), .int .i64 32]) (o5.up 2) j hq
      clear hq
      go_wp2
      go_meet
      exact ⟨q, g, x, rfl, rfl, rfl, Ch.upTo (N := M + 4 + 1) (by omega) (o5.re [2] 1), K4.trans k5.al⟩
    · by_cases h1 : y = 1
      · subst h1
        have oA := ((o4.alloc (.cells #[.int .i64 0, .int .i64 17] 3)).up 2).up 2
        go_wp2_with fail
        refine (next_spec W cb (M + 4) 2 _ _ (by omega) (by omega) (by omega) oA).mono ?_
        rintro e4 w4 ⟨z, hz0, hz1, rfl, o5, k5⟩
        obtain ⟨j, rfl⟩ : ∃ j : Nat, z = (j : Int) := ⟨z.toNat, by omega⟩
        obtain ⟨q, hq⟩ : ∃ q : Int, [Value.int .i64 0, .int .i64 17][j]? = some (.int .i64 q) := by
          have : j = 0 ∨ j = 1 := by omega
          rcases this with rfl | rfl <;> exact ⟨_, rfl⟩
        have c4 := Own.cell (T := 3) (vs := [.int .i64 0, .int .i64 17]) (o5.up 2) j hq
        clear hq
        go_wp2
        go_meet
        exact ⟨f, g, q, rfl, rfl, rfl, Ch.upTo (N := M + 4 + 1) (by omega) (o5.re [2] 1), K4.trans k5.al⟩
      · have hb0 : (y == 0) = false := by simpa using h0
        have hb1 : (y == 1) = false := by simpa using h1
        go_wp2
        go_meet
        exact ⟨f, g, x, rfl, rfl, rfl, Ch.upTo (N := M + 3 + 1) (by omega) o4, K4⟩
  case rest =>
    obtain ⟨f, g, x, rfl, rfl, rfl, o5, k5⟩ := hcut
    clear K4 o4
    go_wp2_with fail
    refine (next_spec W cb (M + 5) 9 _ _ (by omega) (by omega) (by omega) o5).mono ?_
    rintro e6 w6 ⟨z, hz0, hz1, rfl, o6, k6⟩
    have K6 := k5.trans k6
    have oL := (Ch.upTo (M := M + 10) (by omega) o6).re [2, 3, 4, 0, 1]
    clear o5 k5 k6
    by_cases h01 : z ≤ 2
    · obtain ⟨er, L', hq⟩ : ∃ er L', nJoin L f x = (er, L') := ⟨_, _, rfl⟩
      have hp := lagJoin_spec f x oL
      have hsum := nJoin_sum L f x
      have hr := fun (w : World) (R : List SP) (o : Own w (LedR P rb L :: P :: R)) => ledJoin_spec f x HOK.out.ok o
      rw [hq] at hp hsum
      rw [hq] at hr
      have HR := Lib.hid hr
      have HS := Lib.hid hsum
      clear hq hr hsum
      have h01' : z = 0 ∨ z = 1 ∨ z = 2 := by omega
      clear h01 hz0 hz1
      rcases h01' with rfl | rfl | rfl
      all_goals
        go_wp2_with fail
        refine hp.mono ?_
        rintro e8 w8 ⟨rfl, o8, k8⟩
        go_wp2_with fail
        refine (HR.out _ _ (o8.re [1, 2, 0])).mono ?_
        rintro e9 w9 ⟨P', hE, rfl, o9, k9⟩
        go_wp2
        go_ret
        exact ⟨P', L', hE, fun h => HS.out.trans h, by simp, LagR.le (Nat.le_succ N) (o9.re [2, 0, 1]), K6.trans (k8.trans k9)⟩
    · have hb0 : (z == 0) = false := by rw [beq_eq_false_iff_ne]; omega
      have hb1 : (z == 1) = false := by rw [beq_eq_false_iff_ne]; omega
      have hb2 : (z == 2) = false := by rw [beq_eq_false_iff_ne]; omega
      by_cases h3 : z = 3
      · subst h3
        obtain ⟨er, L', hq⟩ : ∃ er L', nLeave L f = (er, L') := ⟨_, _, rfl⟩
        obtain ⟨er1, er2⟩ := er
        have hp := lagLeave_spec f (by omega) oL
        have hsum := nLeave_sum HOK.out f
        have hr := fun (w : World) (R : List SP) (o : Own w (LedR P rb L :: P :: R)) => ledLeave_spec f HOK.out (by omega) o
        rw [hq] at hp hsum
        rw [hq] at hr
        have HR := Lib.hid hr
        have HS := Lib.hid hsum
        clear hq hr hsum
        go_wp2_with fail
        refine hp.mono ?_
        rintro e8 w8 ⟨rfl, o8, k8⟩
        go_wp2_with fail
        refine (HR.out _ _ (o8.re [1, 2, 0])).mono ?_
        rintro e9 w9 ⟨P', hE, rfl, o9, k9⟩
        go_wp2
        go_ret
        exact ⟨P', L', hE, HS.out, by simp, LagR.le (Nat.le_succ N) (o9.re [2, 0, 1]), K6.trans (k8.trans k9)⟩
      · have hb3 : (z == 3) = false := by rw [beq_eq_false_iff_ne]; omega
        by_cases h4 : z = 4
        · subst h4
          obtain ⟨er, L', hq⟩ : ∃ er L', nSetw L f x = (er, L') := ⟨_, _, rfl⟩
          have hp := lagSetw_spec f x oL
          have hsum := nSetw_sum HOK.out f x
          have hr := fun (w : World) (R : List SP) (o : Own w (LedR P rb L :: P :: R)) => ledSetw_spec f x HOK.out.ok o
          rw [hq] at hp hsum
          rw [hq] at hr
          have HR := Lib.hid hr
          have HS := Lib.hid hsum
          clear hq hr hsum
          go_wp2_with fail
          refine hp.mono ?_
          rintro e8 w8 ⟨rfl, o8, k8⟩
          go_wp2_with fail
          refine (HR.out _ _ (o8.re [1, 2, 0])).mono ?_
          rintro e9 w9 ⟨P', hE, rfl, o9, k9⟩
          go_wp2
          go_ret
          exact ⟨P', L', hE, fun h => HS.out.trans h, by simp, LagR.le (Nat.le_succ N) (o9.re [2, 0, 1]), K6.trans (k8.trans k9)⟩
        · have hb4 : (z == 4) = false := by rw [beq_eq_false_iff_ne]; omega
          have oA := ((o6.alloc (.cells #[.int .i64 1, .int .i64 100, .int .i64 1500, .int .i64 4096, .int .i64 0, .int .i64 4097, .int .i64 7] 3)).up 2).up 2
          clear oL
          go_wp2_with fail
          refine (next_spec W cb (M + 6) 7 _ _ (by omega) (by omega) (by omega) oA).mono ?_
          rintro e8 w8 ⟨u, hu0, hu1, rfl, o8, k8⟩
          obtain ⟨j, rfl⟩ : ∃ j : Nat, u = (j : Int) := ⟨u.toNat, by omega⟩
          obtain ⟨n, hn⟩ : ∃ n : Int, [Value.int .i64 1, .int .i64 100, .int .i64 1500, .int .i64 4096, .int .i64 0, .int .i64 4097, .int .i64 7][j]? = some (.int .i64 n) := by
            have : j = 0 ∨ j = 1 ∨ j = 2 ∨ j = 3 ∨ j = 4 ∨ j = 5 ∨ j = 6 := by omega
            rcases this with rfl | rfl | rfl | rfl | rfl | rfl | rfl <;> exact ⟨_, rfl⟩
          have c4 := Own.cell (T := 3) (vs := [.int .i64 1, .int .i64 100, .int .i64 1500, .int .i64 4096, .int .i64 0, .int .i64 4097, .int .i64 7]) (o8.up 2) j hn
          clear hn
          have oL := (Ch.upTo (N := M + 6 + 1) (M := M + 10) (by omega) (o8.re [2] 1)).re [2, 3, 4, 0, 1]
          obtain ⟨er, L', hq⟩ : ∃ er L', nMove L f g n = (er, L') := ⟨_, _, rfl⟩
          have hp := lagMove_spec f g n (by omega) oL
          have hsum := (nMove_ok HOK.out f g n).2
          have hr := fun (w : World) (R : List SP) (o : Own w (LedR P rb L :: P :: R)) => ledMove_spec f g n HOK.out (by omega) o
          rw [hq] at hp hsum
          rw [hq] at hr
          have HR := Lib.hid hr
          have HS := Lib.hid hsum
          clear hq hr hsum
          go_wp2_with fail
          refine hp.mono ?_
          rintro e10 w10 ⟨rfl, o10, k10⟩
          go_wp2_with fail
          refine (HR.out _ _ (o10.re [1, 2, 0])).mono ?_
          rintro e11 w11 ⟨P', hE, rfl, o11, k11⟩
          go_wp2
          go_ret
          exact ⟨P', L', hE, fun h => HS.out.trans h, by simp, o11.re [2, 0, 1], K6.trans (k8.al.trans (k10.trans k11))⟩
end
end Go.Proofs.Ytalkmeclkjnjnaa
