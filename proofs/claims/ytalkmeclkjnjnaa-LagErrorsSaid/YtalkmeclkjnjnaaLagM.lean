/- Products and quotients of a ledger: fixed.MulDiv and ref1.MulDiv at numbers whose product fits. -/
import Derived.Test.YtalkmeclkjnjnaaLagP
import Derived.Test.YtalkmeclkjnjnaaProg
import Derived.Test.YtalkmeclkjnjnaaShelfB
import Derived.Laws.Rows
namespace Go.Proofs.Ytalkmeclkjnjnaa
open Go.RowKit
open Go.Shelf
open SP
section
variable {w w' : World} {R : List SP}
def uv (x : Nat) : Value := .int .u64 (x : Int)

theorem size_pos (x : Nat) (hx : x ≤ 9223372036854775807) : Calls Try.prog 51 #[.int .i64 (x : Int)] w (IsRet (.int .u64 (x : Int)) w) := by
  have hw : IntKind.u64.wrap (x : Int) = (x : Int) := by rw [IntKind.wrap_u64]; omega
  go_enter Try.func51, Try.ntmps51
  go_wp2
  go_ret
  exact ⟨rfl, rfl⟩
theorem size_neg (x : Nat) (h0 : 0 < x) (hx : x ≤ 9223372036854775807) : Calls Try.prog 51 #[.int .i64 (-(x : Int))] w (IsRet (.int .u64 (x : Int)) w) := by
  have hd : decide (-(x : Int) < 0) = true := decide_eq_true (by omega)
  have hw : IntKind.u64.wrap (-IntKind.u64.wrap (-(x : Int))) = (x : Int) := by rw [IntKind.wrap_u64, IntKind.wrap_u64]; omega
  go_enter Try.func51, Try.ntmps51
  go_wp2
  go_ret
  exact ⟨rfl, rfl⟩
theorem abs_pos (x : Nat) (hx : x ≤ 9223372036854775807) : Calls Try.prog 44 #[.int .i64 (x : Int)] w (IsRet (.int .u64 (x : Int)) w) := by
  have hw : IntKind.u64.wrap (x : Int) = (x : Int) := by rw [IntKind.wrap_u64]; omega
  go_enter Try.func44, Try.ntmps44
  go_wp2
  go_ret
  exact ⟨rfl, rfl⟩
theorem abs_neg (x : Nat) (h0 : 0 < x) (hx : x ≤ 9223372036854775807) : Calls Try.prog 44 #[.int .i64 (-(x : Int))] w (IsRet (.int .u64 (x : Int)) w) := by
  have hd : decide (-(x : Int) < 0) = true := decide_eq_true (by omega)
  have hw : IntKind.u64.wrap (-IntKind.u64.wrap (-(x : Int))) = (x : Int) := by rw [IntKind.wrap_u64, IntKind.wrap_u64]; omega
  go_enter Try.func44, Try.ntmps44
  go_wp2
  go_ret
  exact ⟨rfl, rfl⟩

theorem wideMul_spec (x y : Nat) (hx : x < 18446744073709551616) (hy : y < 18446744073709551616) (hp : x * y < 9223372036854775808) (o : Own w R) :
    Calls Try.prog 53 #[.int .u64 (x : Int), .int .u64 (y : Int)] w (Ret (.agg #[.int .u64 0, .int .u64 ((x * y : Nat) : Int)]) R w) := by
  have hm : ∀ W : World, Calls Try.prog 60 #[.int .u64 (x : Int), .int .u64 (y : Int)] W fun e w' => e = .returned (.tuple #[.int .u64 0, .int .u64 ((x * y : Nat) : Int)]) ∧ w' = W := fun W => by
    have := Any.bits_Mul64 Try.mul64 x y hx hy W
    rw [Nat.div_eq_of_lt (by omega), Nat.mod_eq_of_lt (by omega)] at this
    exact this
  have HM := Lib.hid hm
  clear hm
  go_enter Try.func53, Try.ntmps53
  go_wp2_with fail
  refine (HM.out _).mono ?_
  rintro e1 w1 ⟨rfl, rfl⟩
  go_wp2
  refine bodyPost_ret (v := .agg #[.int .u64 0, .int .u64 ((x * y : Nat) : Int)]) ?_ rfl ?_
  · exact results_cell_row rfl _ _ w.heap.size _ _ (0, 0) _ rfl (heap_alloc_new _ _) Try.underlying82 rfl (by kernel_rfl)
  · exact ⟨rfl, (o.alloc _).drop, ⟨rfl, rfl, rfl⟩⟩
theorem div64_spec (x y : Nat) (hx : x < 18446744073709551616) (hy : y < 18446744073709551616) (h0 : 0 < y) :
    Calls Try.prog 59 #[.int .u64 0, .int .u64 (x : Int), .int .u64 (y : Int)] w (fun e w' => e = .returned (.tuple #[.int .u64 ((x / y : Nat) : Int), .int .u64 ((x % y : Nat) : Int)]) ∧ ∃ m, w' = w.drewN m) := by
  have h1 : ¬ (y : Int) = 0 := by omega
  have h2 : decide ((y : Int) ≤ 0) = false := decide_eq_false (by omega)
  have hq : x / y ≤ x := Nat.div_le_self x y
  have hw : IntKind.u64.wrap ((x : Int) / (y : Int)) = ((x / y : Nat) : Int) := by
    rw [IntKind.wrap_u64, ← Int.natCast_ediv]
    have hq2 : x / y < 18446744073709551616 := by omega
    generalize x / y = q at *
    omega
  have hr : (x : Int) % (y : Int) = ((x % y : Nat) : Int) := (Int.natCast_emod x y).symm
  go_enter Try.func59, Try.ntmps59
  go_wp2
  go_quiet (fail)
  go_wp2
  go_ret2
  exact ⟨rfl, _, rfl⟩
def wideV (x : Nat) : Value := .agg #[.int .u64 0, .int .u64 (x : Int)]
theorem wideDiv_spec (x d : Nat) (hx : x < 9223372036854775808) (hd : d < 9223372036854775808) (h0 : 0 < d) (o : Own w R) :
    Calls Try.prog 52 #[.agg #[.int .u64 0, .int .u64 (x : Int)], .int .u64 (d : Int)] w (Ret (.tuple #[.int .u64 ((x / d : Nat) : Int), .int .u64 ((x % d : Nat) : Int), .int .i64 0]) R w) := by
  have h1 : decide ((d : Int) ≤ 0) = false := decide_eq_false (by omega)
  have h2 : ¬ (d : Int) = 0 := by omega
  have hm : ∀ W : World, Calls Try.prog 59 #[.int .u64 0, .int .u64 (x : Int), .int .u64 (d : Int)] W (fun e w' => e = .returned (.tuple #[.int .u64 ((x / d : Nat) : Int), .int .u64 ((x % d : Nat) : Int)]) ∧ ∃ m, w' = W.drewN m) :=
    fun W => div64_spec x d (by omega) (by omega) h0
  have HM := Lib.hid hm
  clear hm
  generalize x / d = q at *
  generalize x % d = r at *
  go_enter Try.func52, Try.ntmps52
  go_wp2_with fail
  refine (HM.out _).mono ?_
  rintro e1 w1 ⟨rfl, m, rfl⟩
  go_wp2
  go_ret3
  exact ⟨rfl, o.more _, ⟨rfl, rfl, rfl⟩⟩
theorem away_no (r d : Nat) (neg : Bool) : Calls Try.prog 54 #[.int .u64 (r : Int), .int .u64 (d : Int), .int .i64 (if neg then 1 else 0), .bool neg] w (IsRet (.bool false) w) := by
  cases neg
  all_goals
    go_enter Try.func54, Try.ntmps54
    go_wp2
    go_ret
    exact ⟨rfl, rfl⟩
theorem signed_spec (q : Nat) (neg : Bool) (hq : q < 9223372036854775808) : Calls Try.prog 55 #[.int .u64 (q : Int), .bool neg] w (IsRet (.tuple #[.int .i64 (if neg then -(q : Int) else (q : Int)), .int .i64 0]) w) := by
  have h1 : IntKind.i64.wrap (IntKind.u64.wrap (-(q : Int))) = -(q : Int) := by rw [IntKind.wrap_u64, IntKind.wrap_i64]; omega
  have h2 : IntKind.i64.wrap (q : Int) = (q : Int) := by rw [IntKind.wrap_i64]; omega
  have h3 : decide ((q : Int) ≤ 9223372036854775808) = true := decide_eq_true (by omega)
  have h4 : decide ((q : Int) ≤ 9223372036854775807) = true := decide_eq_true (by omega)
  cases neg
  all_goals
    go_enter Try.func55, Try.ntmps55
    go_wp2
    go_ret2
    exact ⟨rfl, rfl⟩
set_option maxHeartbeats 1600000 in
theorem mulDiv_spec (x b c : Nat) (neg : Bool) (hn : neg = true → 0 < x) (hx : x < 9223372036854775808) (hb : b < 9223372036854775808) (hp : x * b < 9223372036854775808) (hc : c < 9223372036854775808) (h0 : 0 < c) (o : Own w R) :
    Calls Try.prog 43 #[.int .i64 (if neg then -(x : Int) else (x : Int)), .int .i64 (b : Int), .int .i64 (c : Int), .int .i64 (if neg then 1 else 0)] w
      (Ret (.tuple #[.int .i64 (if neg then -((x * b / c : Nat) : Int) else ((x * b / c : Nat) : Int)), .int .i64 0]) R w) := by
  have hsa : ∀ W : World, Calls Try.prog 51 #[.int .i64 (if neg then -(x : Int) else (x : Int))] W (IsRet (.int .u64 (x : Int)) W) := fun W => by
    cases neg with
    | false => exact size_pos x (by omega)
    | true => exact size_neg x (hn rfl) (by omega)
  have HSA := Lib.hid hsa
  have hsb : ∀ W : World, Calls Try.prog 51 #[.int .i64 (b : Int)] W (IsRet (.int .u64 (b : Int)) W) := fun W => size_pos b (by omega)
  have HSB := Lib.hid hsb
  have hsc : ∀ W : World, Calls Try.prog 51 #[.int .i64 (c : Int)] W (IsRet (.int .u64 (c : Int)) W) := fun W => size_pos c (by omega)
  have HSC := Lib.hid hsc
  have hq : x * b / c ≤ x * b := Nat.div_le_self _ _
  have hM : ∀ (W : World) (R' : List SP), Own W R' → Calls Try.prog 53 #[.int .u64 (x : Int), .int .u64 (b : Int)] W (Ret (.agg #[.int .u64 0, .int .u64 ((x * b : Nat) : Int)]) R' W) :=
    fun W R' o' => wideMul_spec x b (by omega) (by omega) hp o'
  have HM := Lib.hid hM
  have hD : ∀ (W : World) (R' : List SP), Own W R' → Calls Try.prog 52 #[.agg #[.int .u64 0, .int .u64 ((x * b : Nat) : Int)], .int .u64 (c : Int)] W (Ret (.tuple #[.int .u64 ((x * b / c : Nat) : Int), .int .u64 ((x * b % c : Nat) : Int), .int .i64 0]) R' W) :=
    fun W R' o' => wideDiv_spec (x * b) c hp hc h0 o'
  have HD := Lib.hid hD
  have hS : ∀ W : World, Calls Try.prog 55 #[.int .u64 ((x * b / c : Nat) : Int), .bool neg] W (IsRet (.tuple #[.int .i64 (if neg then -((x * b / c : Nat) : Int) else ((x * b / c : Nat) : Int)), .int .i64 0]) W) :=
    fun W => signed_spec (x * b / c) neg (by omega)
  have HS := Lib.hid hS
  have hA : ∀ W : World, Calls Try.prog 54 #[.int .u64 ((x * b % c : Nat) : Int), .int .u64 (c : Int), .int .i64 (if neg then 1 else 0), .bool neg] W (IsRet (.bool false) W) :=
    fun W => away_no (x * b % c) c neg
  have HA := Lib.hid hA
  clear hsa hsb hsc hM hD hS hA
  generalize x * b / c = q at *
  generalize x * b % c = r at *
  generalize x * b = p at *
  have hcn : decide ((c : Int) < 0) = false := decide_eq_false (by omega)
  have hbn : decide ((b : Int) < 0) = false := decide_eq_false (by omega)
  cases neg with
  | false =>
    have han : decide ((x : Int) < 0) = false := decide_eq_false (by omega)
    go_enter Try.func43, Try.ntmps43
    go_wp2_with fail
    refine (HSC.out _).mono ?_
    rintro e1 w1 ⟨rfl, rfl⟩
    go_wp2_with fail
    refine (HSA.out _).mono ?_
    rintro e1 w1 ⟨rfl, rfl⟩
    go_wp2_with fail
    refine (HSB.out _).mono ?_
    rintro e1 w1 ⟨rfl, rfl⟩
    go_wp2_with fail
    refine (HM.out _ _ o).mono ?_
    rintro e1 w1 ⟨rfl, o1, k1⟩
    go_wp2_with fail
    refine (HD.out _ _ o1).mono ?_
    rintro e2 w2 ⟨rfl, o2, k2⟩
    by_cases hr : r = 0
    · subst hr
      go_wp2_with fail
      refine (HS.out _).mono ?_
      rintro e3 w3 ⟨rfl, rfl⟩
      go_wp2
      go_ret2
      exact ⟨rfl, o2, k1.trans k2⟩
    · have hr0 : decide (0 < r) = true := decide_eq_true (by omega)
      go_wp2_with fail
      refine (HA.out _).mono ?_
      rintro e3 w3 ⟨rfl, rfl⟩
      go_wp2_with fail
      refine (HS.out _).mono ?_
      rintro e3 w3 ⟨rfl, rfl⟩
      go_wp2
      go_ret2
      exact ⟨rfl, o2, k1.trans k2⟩
  | true =>
    have han : decide (-(x : Int) < 0) = true := decide_eq_true (by have := hn rfl; omega)
    go_enter Try.func43, Try.ntmps43
    go_wp2_with fail
    refine (HSC.out _).mono ?_
    rintro e1 w1 ⟨rfl, rfl⟩
    go_wp2_with fail
    refine (HSA.out _).mono ?_
    rintro e1 w1 ⟨rfl, rfl⟩
    go_wp2_with fail
    refine (HSB.out _).mono ?_
    rintro e1 w1 ⟨rfl, rfl⟩
    go_wp2_with fail
    refine (HM.out _ _ o).mono ?_
    rintro e1 w1 ⟨rfl, o1, k1⟩
    go_wp2_with fail
    refine (HD.out _ _ o1).mono ?_
    rintro e2 w2 ⟨rfl, o2, k2⟩
    by_cases hr : r = 0
    · subst hr
      go_wp2_with fail
      refine (HS.out _).mono ?_
      rintro e3 w3 ⟨rfl, rfl⟩
      go_wp2
      go_ret2
      exact ⟨rfl, o2, k1.trans k2⟩
    · have hr0 : decide (0 < r) = true := decide_eq_true (by omega)
      go_wp2_with fail
      refine (HA.out _).mono ?_
      rintro e3 w3 ⟨rfl, rfl⟩
      go_wp2_with fail
      refine (HS.out _).mono ?_
      rintro e3 w3 ⟨rfl, rfl⟩
      go_wp2
      go_ret2
      exact ⟨rfl, o2, k1.trans k2⟩
theorem rsign_f (q : Nat) (hq : q < 9223372036854775808) : Calls Try.prog 47 #[.int .u64 (q : Int), .bool false] w (IsRet (.tuple #[.int .i64 (q : Int), .int .i64 0]) w) := by
  have h2 : IntKind.i64.wrap (q : Int) = (q : Int) := by rw [IntKind.wrap_i64]; omega
  have h4 : decide ((q : Int) < 9223372036854775808) = true := decide_eq_true (by omega)
  clear hq
  go_enter Try.func47, Try.ntmps47
  go_wp2
  go_ret2
  exact ⟨rfl, rfl⟩
theorem rsign_t (q : Nat) (hq : q < 9223372036854775808) : Calls Try.prog 47 #[.int .u64 (q : Int), .bool true] w (IsRet (.tuple #[.int .i64 (-(q : Int)), .int .i64 0]) w) := by
  have h1 : IntKind.i64.wrap (IntKind.u64.wrap (-(q : Int))) = -(q : Int) := by rw [IntKind.wrap_u64, IntKind.wrap_i64]; omega
  have h3 : decide ((q : Int) ≤ 9223372036854775808) = true := decide_eq_true (by omega)
  clear hq
  go_enter Try.func47, Try.ntmps47
  go_wp2
  go_ret2
  exact ⟨rfl, rfl⟩
set_option maxHeartbeats 800000 in
theorem refMul_spec (x y : Nat) (hx : x < 9223372036854775808) (hy : y < 4294967296) (hp : x * y < 9223372036854775808) (o : Own w R) :
    Calls Try.prog 46 #[.int .u64 (x : Int), .int .u64 (y : Int)] w (Ret (.agg #[.int .u64 0, .int .u64 ((x * y : Nat) : Int)]) R w) := by
  have hy1 : (y : Int) / 4294967296 = 0 := by omega
  have hy0 : (y : Int) % 4294967296 = (y : Int) := by omega
  obtain ⟨a1, ha1⟩ : ∃ n, x / 4294967296 = n := ⟨_, rfl⟩
  obtain ⟨a0, ha0⟩ : ∃ n, x % 4294967296 = n := ⟨_, rfl⟩
  have hx1 : (x : Int) / 4294967296 = (a1 : Int) := by omega
  have hx0 : (x : Int) % 4294967296 = (a0 : Int) := by omega
  have hxx : x = a1 * 4294967296 + a0 := by omega
  obtain ⟨P, hP⟩ : ∃ n, a1 * y = n := ⟨_, rfl⟩
  obtain ⟨Q, hQ⟩ : ∃ n, a0 * y = n := ⟨_, rfl⟩
  have hxy : x * y = P * 4294967296 + Q := by rw [hxx, Nat.add_mul, ← hP, ← hQ, Nat.mul_right_comm]
  have wP : IntKind.u64.wrap ((a1 : Int) * (y : Int)) = (P : Int) := by rw [← Int.natCast_mul, hP, IntKind.wrap_u64]; omega
  have wQ : IntKind.u64.wrap ((a0 : Int) * (y : Int)) = (Q : Int) := by rw [← Int.natCast_mul, hQ, IntKind.wrap_u64]; omega
  obtain ⟨Q1, hQ1⟩ : ∃ n, Q / 4294967296 = n := ⟨_, rfl⟩
  obtain ⟨Q0, hQ0⟩ : ∃ n, Q % 4294967296 = n := ⟨_, rfl⟩
  have dQ : (Q : Int) / 4294967296 = (Q1 : Int) := by omega
  have tQ : (Q : Int).tmod 4294967296 = (Q0 : Int) := by rw [Int.tmod_eq_emod_of_nonneg (by omega)]; omega
  obtain ⟨M, hM⟩ : ∃ n, P + Q1 = n := ⟨_, rfl⟩
  have wM : IntKind.u64.wrap ((P : Int) + (Q1 : Int)) = (M : Int) := by rw [IntKind.wrap_u64]; omega
  have tM : (M : Int).tmod 4294967296 = (M : Int) := by rw [Int.tmod_eq_emod_of_nonneg (by omega)]; omega
  have dM : (M : Int) / 4294967296 = 0 := by omega
  have w0 : IntKind.u64.wrap 0 = 0 := by decide
  have wM2 : IntKind.u64.wrap (M : Int) = (M : Int) := by rw [IntKind.wrap_u64]; omega
  obtain ⟨H, hH⟩ : ∃ n, M * 4294967296 = n := ⟨_, rfl⟩
  have wH : IntKind.u64.wrap ((M : Int) * 4294967296) = (H : Int) := by rw [IntKind.wrap_u64]; omega
  have wE : IntKind.u64.wrap ((H : Int) + (Q0 : Int)) = ((x * y : Nat) : Int) := by rw [IntKind.wrap_u64]; omega
  generalize x * y = p at *
  clear hxy hP hQ hxx ha1 ha0 hQ1 hQ0 hM hH
  go_enter Try.func46, Try.ntmps46
  go_wp2
  refine bodyPost_ret (v := .agg #[.int .u64 0, .int .u64 (p : Int)]) ?_ rfl ?_
  · exact results_cell_row rfl _ _ w.heap.size _ _ (0, 0) _ rfl (heap_alloc_new _ _) Try.underlying82 rfl (by kernel_rfl)
  · exact ⟨rfl, (o.alloc _).drop, ⟨rfl, rfl, rfl⟩⟩
def ivOf : Value → Int
  | .int _ q => q
  | _ => 0
theorem div_step {A q r d bit : Nat} (hd : 0 < d) (hA : A / d = q) (hr : A % d = r) (_hb : bit < 2) :
    ((2 * A + bit) / d = if 2 * r + bit < d then 2 * q else 2 * q + 1) ∧ (2 * A + bit) % d = if 2 * r + bit < d then 2 * r + bit else 2 * r + bit - d := by
  have e : d * q + r = A := by rw [← hA, ← hr]; exact Nat.div_add_mod A d
  have hlt : r < d := by rw [← hr]; exact Nat.mod_lt _ hd
  by_cases h : 2 * r + bit < d
  · rw [if_pos h, if_pos h]
    refine (Nat.div_mod_unique hd).2 ⟨?_, h⟩
    rw [← e, Nat.mul_add, Nat.mul_left_comm]; omega
  · rw [if_neg h, if_neg h]
    refine (Nat.div_mod_unique hd).2 ⟨?_, by omega⟩
    rw [← e, Nat.mul_add, Nat.mul_add, Nat.mul_left_comm, Nat.mul_one]; omega
def DivRel (x d b : Nat) (R : List SP) (w : World) (v7 v8 v9 : Value) (wr : World) : Prop :=
  ∃ i : Nat, i ≤ 64 ∧ v7 = .int .u64 ((x / 2 ^ i % d : Nat) : Int) ∧ v8 = .int .u64 ((x / 2 ^ i / d : Nat) : Int) ∧ v9 = .int .i64 ((i : Int) - 1) ∧
    Own wr (cel b 82 [.int .u64 0, .int .u64 (x : Int)] :: R) ∧ Calm w wr
set_option maxHeartbeats 1600000 in
theorem refDiv_spec (x d : Nat) (hx : x < 9223372036854775808) (hd : d < 9223372036854775808) (h0 : 0 < d) (o : Own w R) :
    Calls Try.prog 45 #[.agg #[.int .u64 0, .int .u64 (x : Int)], .int .u64 (d : Int)] w (Ret (.tuple #[.int .u64 ((x / d : Nat) : Int), .int .u64 ((x % d : Nat) : Int), .int .i64 0]) R w) := by
  have h1 : decide ((d : Int) ≤ 0) = false := decide_eq_false (by omega)
  have h2 : ¬ (d : Int) = 0 := by omega
  have hst : DivRel x d w.heap.size R w (.int .u64 0) (.int .u64 0) (.int .i64 63) (w.alloc (.cells #[.int .u64 0, .int .u64 (x : Int)] 82)) := by
    have e : x / 2 ^ 64 = 0 := Nat.div_eq_of_lt (by omega)
    refine ⟨64, by omega, ?_, ?_, rfl, o.alloc _, ⟨rfl, rfl, rfl⟩⟩
    · rw [e, Nat.zero_mod]; rfl
    · rw [e, Nat.zero_div]; rfl
  go_enter Try.func45, Try.ntmps45
  go_wp2
  go_loopw [7, 8, 9] (fun v7 v8 v9 wr => DivRel x d w.heap.size R w v7 v8 v9 wr) (fun _ _ v _ => (ivOf v + 1).toNat)
  case atStart => exact hst
  case round =>
    clear hst
    obtain ⟨i, hi, rfl, rfl, rfl, oR, kR⟩ := hrel
    have c1 := oR.cell 1
    cases i with
    | zero =>
      have f0 : decide (0 ≤ ((0 : Nat) : Int) - 1) = false := by decide
      simp only [Nat.pow_zero, Nat.div_one]
      go_wp2
      go_ret3
      exact ⟨rfl, oR.drop, kR⟩
    | succ k =>
      have hk : ((k + 1 : Nat) : Int) - 1 = (k : Int) := by omega
      rw [hk]
      obtain ⟨A, hA⟩ : ∃ A, x / 2 ^ (k + 1) = A := ⟨_, rfl⟩
      obtain ⟨B, hB⟩ : ∃ B, x / 2 ^ k = B := ⟨_, rfl⟩
      have hAB : B / 2 = A := by rw [← hA, ← hB, Nat.div_div_eq_div_mul, ← Nat.pow_succ]
      have hBx : B ≤ x := by rw [← hB]; exact Nat.div_le_self _ _
      rw [hA]
      obtain ⟨q, hq⟩ : ∃ q, A / d = q := ⟨_, rfl⟩
      obtain ⟨r, hr⟩ : ∃ r, A % d = r := ⟨_, rfl⟩
      obtain ⟨bit, hb⟩ : ∃ b, B % 2 = b := ⟨_, rfl⟩
      have hqA : q ≤ A := by rw [← hq]; exact Nat.div_le_self _ _
      have hrd : r < d := by rw [← hr]; exact Nat.mod_lt _ h0
      obtain ⟨s1, s2⟩ := div_step (bit := bit) h0 hq hr (by omega)
      rw [show 2 * A + bit = B by omega] at s1 s2
      rw [hq, hr]
      have hsh : ((x : Int) / 2 ^ k).tmod 2 = (bit : Int) := by
        have : ((x : Int) / 2 ^ k) = (B : Int) := by rw [← hB, Int.natCast_ediv, Int.natCast_pow]; rfl
        rw [this, Int.tmod_eq_emod_of_nonneg (by omega)]; omega
      obtain ⟨r2, hr2⟩ : ∃ n, 2 * r + bit = n := ⟨_, rfl⟩
      obtain ⟨q2, hq2⟩ : ∃ n, 2 * q = n := ⟨_, rfl⟩
      have w1 : IntKind.u64.wrap ((r : Int) * 2) = (r : Int) * 2 := by rw [IntKind.wrap_u64]; omega
      have w2 : IntKind.u64.wrap ((r : Int) * 2 + (bit : Int)) = (r2 : Int) := by rw [IntKind.wrap_u64]; omega
      have w3 : IntKind.u64.wrap ((q : Int) * 2) = (q2 : Int) := by rw [IntKind.wrap_u64]; omega
      have d1 : (r : Int) / 9223372036854775808 = 0 := by omega
      have d2 : ¬ (r : Int) / 9223372036854775808 = 1 := by omega
      have f0 : decide (0 ≤ (k : Int)) = true := decide_eq_true (by omega)
      rw [hr2] at s1 s2
      rw [hq2] at s1
      have HB := Lib.hid hB
      by_cases hlt : r2 < d
      · rw [if_pos hlt] at s1 s2
        have f1 : decide ((d : Int) ≤ (r2 : Int)) = false := decide_eq_false (by omega)
        have f2 : decide (d ≤ r2) = false := decide_eq_false (by omega)
        clear hA hAB hB hr hq hb hr2 hq2 hqA hBx hrd
        go_wp2
        go_roundw
        case rel => exact ⟨k, by omega, by rw [HB.out, s2], (by rw [HB.out, s1]; first | done | rfl), rfl, oR, kR⟩
        case measure => simp [ivOf]
      · rw [if_neg hlt] at s1 s2
        have f1 : decide ((d : Int) ≤ (r2 : Int)) = true := decide_eq_true (by omega)
        have f2 : decide (d ≤ r2) = true := decide_eq_true (by omega)
        have w4 : IntKind.u64.wrap ((r2 : Int) - (d : Int)) = ((r2 - d : Nat) : Int) := by rw [IntKind.wrap_u64]; omega
        have w5 : IntKind.u64.wrap ((q2 : Int) + 1) = ((q2 + 1 : Nat) : Int) := by rw [IntKind.wrap_u64]; omega
        clear hA hAB hB hr hq hb hr2 hq2 hqA hBx hrd
        go_wp2
        go_roundw
        case rel => exact ⟨k, by omega, by rw [HB.out, s2], (by rw [HB.out, s1]; first | done | rfl), rfl, oR, kR⟩
        case measure => simp [ivOf]
set_option maxHeartbeats 1600000 in
theorem refMulDiv_spec (x b c : Nat) (neg : Bool) (hn : neg = true → 0 < x) (hx : x < 9223372036854775808) (hb : b < 4294967296) (hp : x * b < 9223372036854775808) (hc : c < 9223372036854775808) (h0 : 0 < c) (o : Own w R) :
    Calls Try.prog 35 #[.int .i64 (if neg then -(x : Int) else (x : Int)), .int .i64 (b : Int), .int .i64 (c : Int), .int .i64 (if neg then 1 else 0)] w
      (Ret (.tuple #[.int .i64 (if neg then -((x * b / c : Nat) : Int) else ((x * b / c : Nat) : Int)), .int .i64 0]) R w) := by
  have hsa : ∀ W : World, Calls Try.prog 44 #[.int .i64 (if neg then -(x : Int) else (x : Int))] W (IsRet (.int .u64 (x : Int)) W) := fun W => by
    cases neg with
    | false => exact abs_pos x (by omega)
    | true => exact abs_neg x (hn rfl) (by omega)
  have HSA := Lib.hid hsa
  have hsb : ∀ W : World, Calls Try.prog 44 #[.int .i64 (b : Int)] W (IsRet (.int .u64 (b : Int)) W) := fun W => abs_pos b (by omega)
  have HSB := Lib.hid hsb
  have hsc : ∀ W : World, Calls Try.prog 44 #[.int .i64 (c : Int)] W (IsRet (.int .u64 (c : Int)) W) := fun W => abs_pos c (by omega)
  have HSC := Lib.hid hsc
  have hq : x * b / c ≤ x * b := Nat.div_le_self _ _
  have hM : ∀ (W : World) (R' : List SP), Own W R' → Calls Try.prog 46 #[.int .u64 (x : Int), .int .u64 (b : Int)] W (Ret (.agg #[.int .u64 0, .int .u64 ((x * b : Nat) : Int)]) R' W) :=
    fun W R' o' => refMul_spec x b hx hb hp o'
  have HM := Lib.hid hM
  have hD : ∀ (W : World) (R' : List SP), Own W R' → Calls Try.prog 45 #[.agg #[.int .u64 0, .int .u64 ((x * b : Nat) : Int)], .int .u64 (c : Int)] W (Ret (.tuple #[.int .u64 ((x * b / c : Nat) : Int), .int .u64 ((x * b % c : Nat) : Int), .int .i64 0]) R' W) :=
    fun W R' o' => refDiv_spec (x * b) c hp hc h0 o'
  have HD := Lib.hid hD
  have hSf : ∀ W : World, Calls Try.prog 47 #[.int .u64 ((x * b / c : Nat) : Int), .bool false] W (IsRet (.tuple #[.int .i64 ((x * b / c : Nat) : Int), .int .i64 0]) W) :=
    fun W => rsign_f (x * b / c) (by omega)
  have HSf := Lib.hid hSf
  have hSt : ∀ W : World, Calls Try.prog 47 #[.int .u64 ((x * b / c : Nat) : Int), .bool true] W (IsRet (.tuple #[.int .i64 (-((x * b / c : Nat) : Int)), .int .i64 0]) W) :=
    fun W => rsign_t (x * b / c) (by omega)
  have HSt := Lib.hid hSt
  clear hsa hsb hsc hM hD hSf hSt
  generalize x * b / c = q at *
  generalize x * b % c = r at *
  generalize x * b = p at *
  have hcn : decide ((c : Int) < 0) = false := decide_eq_false (by omega)
  have hbn : decide ((b : Int) < 0) = false := decide_eq_false (by omega)
  have hc0 : ((c : Int) == 0) = false := by simp; omega
  have hqn : ¬ q = 18446744073709551615 := by omega
  have hqm : ((q : Int) == 18446744073709551615) = false := by simp; omega
  cases neg with
  | false =>
    have han : decide ((x : Int) < 0) = false := decide_eq_false (by omega)
    go_enter Try.func35, Try.ntmps35
    go_wp2_with fail
    refine (HSC.out _).mono ?_
    rintro e1 w1 ⟨rfl, rfl⟩
    go_wp2_with fail
    refine (HSA.out _).mono ?_
    rintro e1 w1 ⟨rfl, rfl⟩
    go_wp2_with fail
    refine (HSB.out _).mono ?_
    rintro e1 w1 ⟨rfl, rfl⟩
    go_wp2_with fail
    refine (HM.out _ _ o).mono ?_
    rintro e1 w1 ⟨rfl, o1, k1⟩
    go_wp2_with fail
    refine (HD.out _ _ o1).mono ?_
    rintro e2 w2 ⟨rfl, o2, k2⟩
    by_cases hr : r = 0
    · subst hr
      go_wp2_with fail
      refine (HSf.out _).mono ?_
      rintro e3 w3 ⟨rfl, rfl⟩
      go_wp2
      go_ret2
      exact ⟨rfl, o2, k1.trans k2⟩
    · have hr0 : ((r : Int) == 0) = false := by simp; omega
      go_wp2_with fail
      refine (HSf.out _).mono ?_
      rintro e3 w3 ⟨rfl, rfl⟩
      go_wp2
      go_ret2
      exact ⟨rfl, o2, k1.trans k2⟩
  | true =>
    have han : decide (-(x : Int) < 0) = true := decide_eq_true (by have := hn rfl; omega)
    go_enter Try.func35, Try.ntmps35
    go_wp2_with fail
    refine (HSC.out _).mono ?_
    rintro e1 w1 ⟨rfl, rfl⟩
    go_wp2_with fail
    refine (HSA.out _).mono ?_
    rintro e1 w1 ⟨rfl, rfl⟩
    go_wp2_with fail
    refine (HSB.out _).mono ?_
    rintro e1 w1 ⟨rfl, rfl⟩
    go_wp2_with fail
    refine (HM.out _ _ o).mono ?_
    rintro e1 w1 ⟨rfl, o1, k1⟩
    go_wp2_with fail
    refine (HD.out _ _ o1).mono ?_
    rintro e2 w2 ⟨rfl, o2, k2⟩
    by_cases hq0 : q = 0
    · subst hq0
      by_cases hr : r = 0
      · subst hr
        go_wp2_with fail
        refine (HSf.out _).mono ?_
        rintro e3 w3 ⟨rfl, rfl⟩
        go_wp2
        go_ret2
        exact ⟨rfl, o2, k1.trans k2⟩
      · have hr0 : ((r : Int) == 0) = false := by simp; omega
        go_wp2_with fail
        refine (HSf.out _).mono ?_
        rintro e3 w3 ⟨rfl, rfl⟩
        go_wp2
        go_ret2
        exact ⟨rfl, o2, k1.trans k2⟩
    · have hq1 : decide (0 < q) = true := decide_eq_true (by omega)
      by_cases hr : r = 0
      · subst hr
        go_wp2_with fail
        refine (HSt.out _).mono ?_
        rintro e3 w3 ⟨rfl, rfl⟩
        go_wp2
        go_ret2
        exact ⟨rfl, o2, k1.trans k2⟩
      · have hr0 : ((r : Int) == 0) = false := by simp; omega
        go_wp2_with fail
        refine (HSt.out _).mono ?_
        rintro e3 w3 ⟨rfl, rfl⟩
        go_wp2
        go_ret2
        exact ⟨rfl, o2, k1.trans k2⟩
end
end Go.Proofs.Ytalkmeclkjnjnaa
