/- The laws of the ledger: LagZero's walk. -/
import Derived.Test.YtalkmeclkjnjnaaLagF
namespace Go.Proofs.Ytalkmeclkjnjnaa
open Go.RowKit
open SP
section
variable {P : SP} {W w w' : World} {R : List SP} {b rb cb N : Nat} {L : List Tg}
def lagOf (L : List Tg) (f : Int) : Int := match fget L f with
  | some t => t.s
  | none => 0
theorem lagV_of (L : List Tg) (f : Int) : lagV L f = .tuple #[.int .i64 (lagOf L f), .bool (fget L f).isSome] := by
  unfold lagV lagOf
  cases fget L f <;> rfl
def upTo (L : List Tg) (n : Int) : List Tg := L.filter fun t => decide (t.f < n)
theorem upTo_next : ∀ {L : List Tg} (_ : (L.map (·.f)).Pairwise (· < ·)) (n : Int), sumS (upTo L (n + 1)) = sumS (upTo L n) + lagOf L n
  | [], _, _ => rfl
  | a :: L, h, n => by
    rw [List.map_cons, List.pairwise_cons] at h
    have ih := upTo_next h.2 n
    unfold upTo lagOf at *
    rw [fget_cons]
    by_cases h1 : a.f < n
    · rw [List.filter_cons_of_pos (by simp; omega), List.filter_cons_of_pos (by simp; omega), if_neg (by omega), sumS_cons, sumS_cons, ih]; omega
    · by_cases h2 : a.f = n
      · have hn : fget L n = none := fget_none.2 fun t ht => by
          have := h.1 t.f (List.mem_map.2 ⟨t, ht, rfl⟩); omega
        rw [hn] at ih
        rw [List.filter_cons_of_pos (by simp; omega), List.filter_cons_of_neg (by simp; omega), if_pos h2, sumS_cons, ih]; simp only; omega
      · rw [List.filter_cons_of_neg (by simp; omega), List.filter_cons_of_neg (by simp; omega), if_neg h2, ih]
theorem upTo_zero (h : NOk L) : upTo L 0 = [] := by
  unfold upTo
  rw [List.filter_eq_nil_iff]
  intro t ht
  have := h.rng t ht
  simp; omega
theorem upTo_all (h : NOk L) : upTo L 32 = L := by
  unfold upTo
  rw [List.filter_eq_self]
  intro t ht
  have := h.rng t ht
  simp; omega
theorem upTo_abs (L : List Tg) (n : Int) : ab (sumS (upTo L n)) ≤ absS L := by
  refine Int.le_trans (sumS_abs _) ?_
  unfold upTo
  induction L with
  | nil => exact Int.le_refl _
  | cons a L ih =>
    have := ab_nonneg a.s
    by_cases h : a.f < n
    · rw [List.filter_cons_of_pos (by simpa using h), absS_cons, absS_cons]; omega
    · rw [List.filter_cons_of_neg (by simpa using h), absS_cons]; omega
theorem sum_nonneg : ∀ {L : List Tg}, (∀ t ∈ L, 0 ≤ t.s) → 0 ≤ sumS L
  | [], _ => Int.le_refl _
  | a :: L, h => by
    rw [sumS_cons]; have := h a (by simp); have := sum_nonneg (L := L) fun t ht => h t (by simp [ht]); omega
theorem sum_zero : ∀ {L : List Tg}, (∀ t ∈ L, 0 ≤ t.s) → sumS L = 0 → ∀ t ∈ L, t.s = 0
  | [], _, _, t, ht => absurd ht (by simp)
  | a :: L, h, h0, t, ht => by
    rw [sumS_cons] at h0
    have h1 := h a (by simp)
    have h2 := sum_nonneg (L := L) fun t ht => h t (by simp [ht])
    rcases List.mem_cons.1 ht with rfl | ht
    · omega
    · exact sum_zero (fun t ht => h t (by simp [ht])) (by omega) t ht
theorem sum_nonpos : ∀ {L : List Tg}, (∀ t ∈ L, t.s ≤ 0) → sumS L ≤ 0
  | [], _ => Int.le_refl _
  | a :: L, h => by
    rw [sumS_cons]; have := h a (by simp); have := sum_nonpos (L := L) fun t ht => h t (by simp [ht]); omega
theorem sum_zero' : ∀ {L : List Tg}, (∀ t ∈ L, t.s ≤ 0) → sumS L = 0 → ∀ t ∈ L, t.s = 0
  | [], _, _, t, ht => absurd ht (by simp)
  | a :: L, h, h0, t, ht => by
    rw [sumS_cons] at h0
    have h1 := h a (by simp)
    have h2 := sum_nonpos (L := L) fun t ht => h t (by simp [ht])
    rcases List.mem_cons.1 ht with rfl | ht
    · omega
    · exact sum_zero' (fun t ht => h t (by simp [ht])) (by omega) t ht
theorem sideL_nil {p : Int → Bool} {L : List Tg} : (sideL p L).length = 0 ↔ ∀ t ∈ L, p t.s = false := by
  unfold sideL
  rw [List.length_map, List.length_eq_zero_iff, List.filter_eq_nil_iff]
  simp
theorem sides (h : sumS L = 0) : (sideL laggingP L).length = 0 ↔ (sideL leadingP L).length = 0 := by
  rw [sideL_nil, sideL_nil]
  unfold laggingP leadingP
  constructor
  · intro h1 t ht
    have := sum_zero' (L := L) (fun t ht => by have := h1 t ht; simp at this; omega) h t ht
    simp; omega
  · intro h1 t ht
    have := sum_zero (L := L) (fun t ht => by have := h1 t ht; simp at this; omega) h t ht
    simp; omega

def ActZ (b rb N : Nat) (_ : SP) (L : List Tg) (R : List SP) (w : World) (e : Ending) (w' : World) : Prop :=
  ∃ P' L' L0' z, (sumS L = 0 → sumS L' = 0) ∧ LgOk (N + 1) L0' ∧ Ret (.bool z) (LagR b (N + 1) L' :: LedR P' rb L0' :: P' :: R) w e w'
def FwZ (W : World) (b rb cb N : Nat) (L L0 : List Tg) (P : SP) (M : Nat) (R : List SP) (w : World) (v7 v8 v9 : Value) (wc : World) : Prop :=
  ∃ f g x : Int, v7 = .int .i64 f ∧ v8 = .int .i64 g ∧ v9 = .int .i64 x ∧ Own wc (Ch W cb M :: old W :: LagR b N L :: LedR P rb L0 :: P :: R) ∧ Calm w wc
set_option maxHeartbeats 6400000 in
set_option maxRecDepth 100000 in
theorem act22z_spec {L0 : List Tg} (hok0 : LgOk N L0) (hN : (N : Int) ≤ 1000000) (M : Nat) (hM : (M : Int) ≤ 800000000000) (o : Own w (LagR b N L :: LedR P rb L0 :: P :: Ch W cb M :: old W :: R)) :
    Calls Try.prog 26 #[.pointer (some ⟨cb, 0, none⟩), .pointer (some ⟨b, 0, none⟩), .pointer (some ⟨rb, 0, none⟩)] w (ActZ b rb N P L (Ch W cb (M + 10) :: old W :: R) w) := by
  have HOK := Lib.hid (LagR.ok o)
  have HOK0 := Lib.hid hok0
  clear hok0
  go_enter Try.func26, Try.ntmps26
  go_wp2_with fail
  refine (next_spec W cb M 6 _ _ (by omega) (by omega) (by omega) (o.re [3, 4, 0, 1, 2])).mono ?_
  rintro e1 w1 ⟨f, hf0, hf1, rfl, o1, k1⟩
  go_wp2_with fail
  refine (next_spec W cb (M + 1) 6 _ _ (by omega) (by omega) (by omega) o1).mono ?_
  rintro e2 w2 ⟨g, hg0, hg1, rfl, o2, k2⟩
  go_wp2_with fail
  refine (genWeight_spec (W := W) (b := cb) (M + 2) (by omega) o2).mono ?_
  rintro e3 w3 ⟨x, hx0, hx1, rfl, o3, k3⟩
  go_wp2_with fail
  refine (next_spec W cb (M + 3) 25 _ _ (by omega) (by omega) (by omega) o3).mono ?_
  rintro e4 w4 ⟨y, hy0, hy1, rfl, o4, k4⟩
  have K4 := k1.trans (k2.trans (k3.trans k4))
  clear o o1 o2 o3 k1 k2 k3 k4
  go_upto_block 0 with fail
  go_cut [7, 8, 9] (fun v7 v8 v9 wc => FwZ W b rb cb N L L0 P (M + 5) R w v7 v8 v9 wc)
  case first =>
    by_cases h0 : y = 0
    · subst h0
      have oA := ((o4.alloc (.cells #[.int .i64 (-1), .int .i64 32] 3)).up 2).up 2
      go_wp2_with fail
      refine (next_spec W cb (M + 4) 2 _ _ (by omega) (by omega) (by omega) oA).mono ?_
      rintro e4 w4 ⟨z, hz0, hz1, rfl, o5, k5⟩
      obtain ⟨j, rfl⟩ : ∃ j : Nat, z = (j : Int) := ⟨z.toNat, by omega⟩
      obtain ⟨q, hq⟩ : ∃ q : Int, [Value.int .i64 (-1), .int .i64 32][j]? = some (.int .i64 q) := by
        have : j = 0 ∨ j = 1 := by omega
        rcases this with rfl | rfl <;> exact ⟨_, rfl⟩
      have c4 := Own.cell (T := 3) (vs := [.int .i64 (-1), .int .i64 32]) (o5.up 2) j hq
      clear hq
      go_wp2
      go_meet
      exact ⟨q, g, x, rfl, rfl, rfl, Ch.upTo (N := M + 4 + 1) (by omega) (o5.re [2] 1), K4.trans k5.al⟩
    · by_cases h1 : y = 1
      · subst h1
        have oA := ((o4.alloc (.cells #[.int .i64 0, .int .i64 17] 3)).up 2).up 2
        go_wp2_with fail
        refine (next_spec W cb (M + 4) 2 _ _ (by omega) (by omega) (by omega) oA).mono ?_
        rintro e4 w4 ⟨z, hz0, hz1, rfl, o5, k5⟩
        obtain ⟨j, rfl⟩ : ∃ j : Nat, z = (j : Int) := ⟨z.toNat, by omega⟩
        obtain ⟨q, hq⟩ : ∃ q : Int, [Value.int .i64 0, .int .i64 17][j]? = some (.int .i64 q) := by
          have : j = 0 ∨ j = 1 := by omega
          rcases this with rfl | rfl <;> exact ⟨_, rfl⟩
        have c4 := Own.cell (T := 3) (vs := [.int .i64 0, .int .i64 17]) (o5.up 2) j hq
        clear hq
        go_wp2
        go_meet
        exact ⟨f, g, q, rfl, rfl, rfl, Ch.upTo (N := M + 4 + 1) (by omega) (o5.re [2] 1), K4.trans k5.al⟩
      · have hb0 : (y == 0) = false := by simpa using h0
        have hb1 : (y == 1) = false := by simpa using h1
        go_wp2
        go_meet
        exact ⟨f, g, x, rfl, rfl, rfl, Ch.upTo (N := M + 3 + 1) (by omega) o4, K4⟩
  case rest =>
    obtain ⟨f, g, x, rfl, rfl, rfl, o5, k5⟩ := hcut
    clear K4 o4
    go_wp2_with fail
    refine (next_spec W cb (M + 5) 9 _ _ (by omega) (by omega) (by omega) o5).mono ?_
    rintro e6 w6 ⟨z, hz0, hz1, rfl, o6, k6⟩
    have K6 := k5.trans k6
    have oL := (Ch.upTo (M := M + 10) (by omega) o6).re [2, 3, 4, 0, 1]
    clear o5 k5 k6
    by_cases h01 : z ≤ 2
    · obtain ⟨er, L', hq⟩ : ∃ er L', nJoin L f x = (er, L') := ⟨_, _, rfl⟩
      obtain ⟨er0, L0', hq0⟩ : ∃ er L', nJoin L0 f x = (er, L') := ⟨_, _, rfl⟩
      have hk0 := (nJoin_ok HOK0.out f x).le (Nat.le_succ N)
      rw [hq0] at hk0
      have HK0 := Lib.hid hk0
      clear hk0
      have hp := lagJoin_spec f x oL
      have hsum := nJoin_sum L f x
      have hr := fun (w : World) (R : List SP) (o : Own w (LedR P rb L0 :: P :: R)) => ledJoin_spec f x HOK0.out.ok o
      rw [hq] at hp hsum
      rw [hq0] at hr
      have HR := Lib.hid hr
      have HS := Lib.hid hsum
      clear hq hq0 hr hsum
      have h01' : z = 0 ∨ z = 1 ∨ z = 2 := by omega
      clear h01 hz0 hz1
      rcases h01' with rfl | rfl | rfl
      all_goals
        go_wp2_with fail
        refine hp.mono ?_
        rintro e8 w8 ⟨rfl, o8, k8⟩
        go_wp2_with fail
        refine (HR.out _ _ (o8.re [1, 2, 0])).mono ?_
        rintro e9 w9 ⟨P', hE, rfl, o9, k9⟩
        go_wp2
        go_ret
        exact ⟨P', L', L0', _, fun h => HS.out.trans h, HK0.out, rfl, LagR.le (Nat.le_succ N) (o9.re [2, 0, 1]), K6.trans (k8.trans k9)⟩
    · have hb0 : (z == 0) = false := by rw [beq_eq_false_iff_ne]; omega
      have hb1 : (z == 1) = false := by rw [beq_eq_false_iff_ne]; omega
      have hb2 : (z == 2) = false := by rw [beq_eq_false_iff_ne]; omega
      by_cases h3 : z = 3
      · subst h3
        obtain ⟨er, L', hq⟩ : ∃ er L', nLeave L f = (er, L') := ⟨_, _, rfl⟩
        obtain ⟨er0, L0', hq0⟩ : ∃ er L', nLeave L0 f = (er, L') := ⟨_, _, rfl⟩
        have hk0 := (nLeave_ok HOK0.out f).le (Nat.le_succ N)
        rw [hq0] at hk0
        have HK0 := Lib.hid hk0
        clear hk0
        obtain ⟨er1, er2⟩ := er
        obtain ⟨er3, er4⟩ := er0
        have hp := lagLeave_spec f (by omega) oL
        have hsum := nLeave_sum HOK.out f
        have hr := fun (w : World) (R : List SP) (o : Own w (LedR P rb L0 :: P :: R)) => ledLeave_spec f HOK0.out (by omega) o
        rw [hq] at hp hsum
        rw [hq0] at hr
        have HR := Lib.hid hr
        have HS := Lib.hid hsum
        clear hq hq0 hr hsum
        go_wp2_with fail
        refine hp.mono ?_
        rintro e8 w8 ⟨rfl, o8, k8⟩
        go_wp2_with fail
        refine (HR.out _ _ (o8.re [1, 2, 0])).mono ?_
        rintro e9 w9 ⟨P', hE, rfl, o9, k9⟩
        go_wp2
        all_goals go_ret
        all_goals exact ⟨P', L', L0', _, HS.out, HK0.out, rfl, LagR.le (Nat.le_succ N) (o9.re [2, 0, 1]), K6.trans (k8.trans k9)⟩
      · have hb3 : (z == 3) = false := by rw [beq_eq_false_iff_ne]; omega
        by_cases h4 : z = 4
        · subst h4
          obtain ⟨er, L', hq⟩ : ∃ er L', nSetw L f x = (er, L') := ⟨_, _, rfl⟩
          obtain ⟨er0, L0', hq0⟩ : ∃ er L', nSetw L0 f x = (er, L') := ⟨_, _, rfl⟩
          have hk0 := (nSetw_ok HOK0.out f x).le (Nat.le_succ N)
          rw [hq0] at hk0
          have HK0 := Lib.hid hk0
          clear hk0
          have hp := lagSetw_spec f x oL
          have hsum := nSetw_sum HOK.out f x
          have hr := fun (w : World) (R : List SP) (o : Own w (LedR P rb L0 :: P :: R)) => ledSetw_spec f x HOK0.out.ok o
          rw [hq] at hp hsum
          rw [hq0] at hr
          have HR := Lib.hid hr
          have HS := Lib.hid hsum
          clear hq hq0 hr hsum
          go_wp2_with fail
          refine hp.mono ?_
          rintro e8 w8 ⟨rfl, o8, k8⟩
          go_wp2_with fail
          refine (HR.out _ _ (o8.re [1, 2, 0])).mono ?_
          rintro e9 w9 ⟨P', hE, rfl, o9, k9⟩
          go_wp2
          go_ret
          exact ⟨P', L', L0', _, fun h => HS.out.trans h, HK0.out, rfl, LagR.le (Nat.le_succ N) (o9.re [2, 0, 1]), K6.trans (k8.trans k9)⟩
        · have hb4 : (z == 4) = false := by rw [beq_eq_false_iff_ne]; omega
          have oA := ((o6.alloc (.cells #[.int .i64 1, .int .i64 100, .int .i64 1500, .int .i64 4096, .int .i64 0, .int .i64 4097, .int .i64 7] 3)).up 2).up 2
          clear oL
          go_wp2_with fail
          refine (next_spec W cb (M + 6) 7 _ _ (by omega) (by omega) (by omega) oA).mono ?_
          rintro e8 w8 ⟨u, hu0, hu1, rfl, o8, k8⟩
          obtain ⟨j, rfl⟩ : ∃ j : Nat, u = (j : Int) := ⟨u.toNat, by omega⟩
          obtain ⟨n, hn⟩ : ∃ n : Int, [Value.int .i64 1, .int .i64 100, .int .i64 1500, .int .i64 4096, .int .i64 0, .int .i64 4097, .int .i64 7][j]? = some (.int .i64 n) := by
            have : j = 0 ∨ j = 1 ∨ j = 2 ∨ j = 3 ∨ j = 4 ∨ j = 5 ∨ j = 6 := by omega
            rcases this with rfl | rfl | rfl | rfl | rfl | rfl | rfl <;> exact ⟨_, rfl⟩
          have c4 := Own.cell (T := 3) (vs := [.int .i64 1, .int .i64 100, .int .i64 1500, .int .i64 4096, .int .i64 0, .int .i64 4097, .int .i64 7]) (o8.up 2) j hn
          clear hn
          have oL := (Ch.upTo (N := M + 6 + 1) (M := M + 10) (by omega) (o8.re [2] 1)).re [2, 3, 4, 0, 1]
          obtain ⟨er, L', hq⟩ : ∃ er L', nMove L f g n = (er, L') := ⟨_, _, rfl⟩
          obtain ⟨er0, L0', hq0⟩ : ∃ er L', nMove L0 f g n = (er, L') := ⟨_, _, rfl⟩
          have hk0 := (nMove_ok HOK0.out f g n).1
          rw [hq0] at hk0
          have HK0 := Lib.hid hk0
          clear hk0
          have hp := lagMove_spec f g n (by omega) oL
          have hsum := (nMove_ok HOK.out f g n).2
          have hr := fun (w : World) (R : List SP) (o : Own w (LedR P rb L0 :: P :: R)) => ledMove_spec f g n HOK0.out (by omega) o
          rw [hq] at hp hsum
          rw [hq0] at hr
          have HR := Lib.hid hr
          have HS := Lib.hid hsum
          clear hq hq0 hr hsum
          go_wp2_with fail
          refine hp.mono ?_
          rintro e10 w10 ⟨rfl, o10, k10⟩
          go_wp2_with fail
          refine (HR.out _ _ (o10.re [1, 2, 0])).mono ?_
          rintro e11 w11 ⟨P', hE, rfl, o11, k11⟩
          go_wp2
          go_ret
          exact ⟨P', L', L0', _, fun h => HS.out.trans h, HK0.out, rfl, o11.re [2, 0, 1], K6.trans (k8.al.trans (k10.trans k11))⟩
def Scr22z (W : World) (cb b rb : Nat) (v : Value) (wr : World) : Prop :=
  ∃ (i N : Nat) (P : SP) (L L0 : List Tg), v = .int .i64 (i : Int) ∧ i ≤ 50 ∧ N ≤ 2 * i ∧ sumS L = 0 ∧ LgOk N L0 ∧
    Own wr [LagR b N L, LedR P rb L0, P, Ch W cb (30 * i), old W] ∧ Calm W wr
def Scr22y (W : World) (cb b rb : Nat) (N M : Nat) (L L0 : List Tg) (P : SP) (v9 v10 : Value) (wr : World) : Prop :=
  ∃ (f : Nat), v10 = .int .i64 (f : Int) ∧ v9 = .int .i64 (sumS (upTo L f)) ∧ f ≤ 32 ∧ Own wr [LagR b N L, LedR P rb L0, P, Ch W cb M, old W] ∧ Calm W wr
set_option maxHeartbeats 6400000 in
set_option maxRecDepth 100000 in
theorem lagZero_walk (a0 : Option Addr) (len0 cap0 : Nat) (z0 : List Int) (n : Int) (w : World) (w0 : IsRow .i64 w a0 len0 cap0 z0) (_ : (Lit.int .i64 n).wf = true) :
    Calls Try.prog 6 #[.slice a0 len0 cap0, .int .i64 n] w fun e w' => e = .returned (.bool true) ∧ Below w.heap.size w w' := by
  have oW := Own.start w
  go_enter Try.func6, Try.ntmps6
  go_wp2_with fail
  refine (genNew_spec a0 len0 cap0 z0 w0 oW).mono ?_
  rintro e1 v1 ⟨cb, rfl, o1, k1⟩
  go_wp2_with fail
  refine (lagNew_spec o1).mono ?_
  rintro e2 v2 ⟨b, rfl, o2, k2⟩
  have o3 := LedR.start (P := SP.pu True) (o2.alloc (.cells #[.slice none 0 0] 48))
  have hT : Scr22z w cb b v2.heap.size (.int .i64 0) (v2.alloc (.cells #[.slice none 0 0] 48)) := ⟨0, 0, SP.pu True, [], [], rfl, by omega, by omega, rfl, LgOk.start, (Own.pu.2 ⟨trivial, o3⟩).re [2, 1, 0, 3, 4], (k1.trans k2).trans ⟨rfl, rfl, rfl⟩⟩
  obtain ⟨rb, hrb⟩ : ∃ rb, v2.heap.size = rb := ⟨_, rfl⟩
  rw [hrb] at hT
  clear o3
  go_wp2
  clear hrb
  go_loopw [8] (fun v wr => Scr22z w cb b rb v wr) (fun v _ => 50 - (ivOf v).toNat)
  case atStart => exact hT
  case round =>
    clear hT o2 k2 o1 k1
    obtain ⟨i, N, P, L, L0, rfl, hi, hN, hS, hok0, oR, kR⟩ := hrel
    have HS := Lib.hid hS
    clear hS
    by_cases hlt : i < 50
    · go_wp2_with fail
      refine (act22z_spec hok0 (by omega) (30 * i) (by omega) oR).mono ?_
      rintro e3 w3 ⟨P1, L1, L2, z, hS1, hok2, rfl, o3, k3⟩
      have HS1 := Lib.hid (hS1 HS.out)
      have HOK2 := Lib.hid hok2
      clear hS1 hok2 hok0
      go_wp2_with fail
      refine (next_spec w cb (30 * i + 10) 6 _ _ (by omega) (by omega) (by omega) (o3.re [3, 4, 0, 1, 2])).mono ?_
      rintro e4 w4 ⟨x, hx0, hx1, rfl, o4, k4⟩
      go_wp2_with fail
      refine (next_spec w cb (30 * i + 11) 6 _ _ (by omega) (by omega) (by omega) o4).mono ?_
      rintro e5 w5 ⟨y, hy0, hy1, rfl, o5, k5⟩
      have oL := (Ch.upTo (M := 30 * (i + 1)) (by omega) o5).re [2, 3, 4, 0, 1]
      have hok1 := Lib.hid (LagR.ok oL)
      obtain ⟨er, L3, hq⟩ : ∃ er L', nMove L1 x y n = (er, L') := ⟨_, _, rfl⟩
      have hp := lagMove_spec x y n (by omega) oL
      have hsum := (nMove_ok hok1.out x y n).2
      rw [hq] at hp hsum
      dsimp only at hp hsum
      have HS3 := Lib.hid (hsum.trans HS1.out)
      clear hq hsum o3 o4 o5
      go_wp2_with fail
      refine hp.mono ?_
      rintro e6 w6 ⟨rfl, o6, k6⟩
      have K6 := kR.trans (k3.trans (k4.trans (k5.trans k6)))
      clear hp oL oR kR k3 k4 k5 k6 hok1
      have hok3 := Lib.hid (LagR.ok o6)
      have hT2 : Scr22y w cb b rb (N + 1 + 1) (30 * (i + 1)) L3 L2 P1 (.int .i64 0) (.int .i64 0) w6 := ⟨0, rfl, by rw [show ((0 : Nat) : Int) = 0 from rfl, upTo_zero hok3.out.ok]; rfl, by omega, o6, K6⟩
      have hN2 : ((N + 1 + 1 : Nat) : Int) ≤ 1000 := by omega
      clear o6 K6
      go_wp2
      go_loopw [9, 10] (fun v9 v10 wr => Scr22y w cb b rb (N + 1 + 1) (30 * (i + 1)) L3 L2 P1 v9 v10 wr) (fun _ v _ => 32 - (ivOf v).toNat)
      case atStart => exact hT2
      case round =>
        clear hT2
        obtain ⟨f, rfl, rfl, hf, oF, kF⟩ := hrel
        by_cases hf32 : f < 32
        · have h1 := lagLag_spec f oF
          rw [lagV_of] at h1
          have hnx := upTo_next hok3.out.ok.asc' (f : Int)
          have b1 := upTo_abs L3 (f : Int)
          have b2 := upTo_abs L3 ((f : Int) + 1)
          have b3 := hok3.out.sm
          rw [hnx] at b2
          have hw : IntKind.i64.wrap (sumS (upTo L3 f) + lagOf L3 f) = sumS (upTo L3 f) + lagOf L3 f := by unfold Go.Proofs.Ytalkmeclkjnjnaa.ab at b1 b2; rw [IntKind.wrap_i64]; omega
          have HNX := Lib.hid hnx
          clear b1 b2 b3 hnx
          generalize sumS (upTo L3 f) = sa at *
          generalize lagOf L3 f = la at *
          generalize (fget L3 f).isSome = za at *
          go_wp2_with fail
          refine h1.mono ?_
          rintro e18 w18 ⟨rfl, o18, k18⟩
          clear h1
          go_wp2
          go_roundw
          case rel => exact ⟨f + 1, by go_num, by rw [← HNX.out]; rfl, by omega, o18, kF.trans k18⟩
          case measure => simp [ivOf]; omega
        · have hf' : f = 32 := by omega
          subst hf'
          have e0 : sumS (upTo L3 ((32 : Nat) : Int)) = 0 := by rw [show ((32 : Nat) : Int) = 32 from rfl, upTo_all hok3.out.ok]; exact HS3.out
          have h1 := lagSum_spec (by omega) oF
          rw [HS3.out] at h1
          rw [e0]
          clear e0
          go_wp2_with fail
          refine h1.mono ?_
          rintro e18 w18 ⟨rfl, o18, k18⟩
          clear h1
          have hsd := sides HS3.out
          have hsl := sideL_len laggingP L3
          have hsl2 := sideL_len leadingP L3
          have hlen := hok3.out.ok.len
          go_wp2_with fail
          refine (lagLagging_spec o18).mono ?_
          rintro e8 w8 ⟨a8, c8, rfl, o8, k8⟩
          go_wp2_with fail
          refine (lagLeading_spec (o8.up 1)).mono ?_
          rintro e9 w9 ⟨a9, c9, rfl, o9, k9⟩
          have oE := o9.re [0, 2, 1, 3, 4, 5, 6] 2
          have kE := kF.trans (k18.trans (k8.trans k9))
          have hok4 := (LgOk.le HOK2.out (Nat.le_succ (N + 1)))
          have HOK4 := Lib.hid hok4
          clear o9 o8 o18 oF k9 k8 k18 kF hok4
          by_cases hz : (sideL laggingP L3).length = 0
          · have hz2 := hsd.1 hz
            rw [hz, hz2]
            clear hz hz2 hsd hsl hsl2
            go_wp2
            go_roundw
            case rel => exact ⟨i + 1, N + 1 + 1, P1, L3, L2, by go_num, by omega, by omega, HS3.out, HOK4.out, oE, kE⟩
            case measure => simp [ivOf]; omega
          · have hz2 : ¬ (sideL leadingP L3).length = 0 := fun h => hz (hsd.2 h)
            generalize (sideL laggingP L3).length = n1 at *
            generalize (sideL leadingP L3).length = n2 at *
            have d1 : decide (0 < n1) = true := decide_eq_true (by omega)
            have d2 : decide (0 < n2) = true := decide_eq_true (by omega)
            clear hz hz2 hsd hsl hsl2
            go_wp2
            go_roundw
            case rel => exact ⟨i + 1, N + 1 + 1, P1, L3, L2, by go_num, by omega, by omega, HS3.out, HOK4.out, oE, kE⟩
            case measure => simp [ivOf]; omega
    · go_wp2_with fail
      refine (awake22_spec oR).mono ?_
      rintro e3 w3 ⟨rfl, o3, k3⟩
      go_wp2
      go_ret
      exact ⟨rfl, (o3.up 4).below (kR.trans k3)⟩
end
end Go.Proofs.Ytalkmeclkjnjnaa
