/- Texts that the law rests on, put together by a program. -/
import Derived.Test.YtjpahfkchhnpoaaGreatCifqScriptA
import Derived.Test.YtjpahfkchhnpoaaGreatProg
import Derived.Laws.Rows
import Derived.Laws.MakeOwn
import Derived.WideKeyEntry
import Derived.Maps.RangeRun
import Derived.Maps.RangeWalk
import Derived.Maps.OwnSet
import Derived.Lib.MinMax
import Derived.Deep.DeepCutAuto
/- Products and quotients of a ledger: fixed.MulDiv and ref1.MulDiv at numbers whose product fits. -/
namespace Go.Proofs.YtjpahfkchhnpoaaGreat
open Go.RowKit
open Go.Shelf
open SP
section
variable {w w' : World} {R : List SP}
def uv (x : Nat) : Value := .int .u64 (x : Int)

theorem size_pos (x : Nat) (hx : x ≤ 9223372036854775807) : Calls Tryz.prog 128 #[.int .i64 (x : Int)] w (IsRet (.int .u64 (x : Int)) w) := by
  have hw : IntKind.u64.wrap (x : Int) = (x : Int) := by rw [IntKind.wrap_u64]; omega
  go_enter Tryz.func128, Tryz.ntmps128
  go_wp2
  go_ret
  exact ⟨rfl, rfl⟩
theorem size_neg (x : Nat) (h0 : 0 < x) (hx : x ≤ 9223372036854775807) : Calls Tryz.prog 128 #[.int .i64 (-(x : Int))] w (IsRet (.int .u64 (x : Int)) w) := by
  have hd : decide (-(x : Int) < 0) = true := decide_eq_true (by omega)
  have hw : IntKind.u64.wrap (-IntKind.u64.wrap (-(x : Int))) = (x : Int) := by rw [IntKind.wrap_u64, IntKind.wrap_u64]; omega
  go_enter Tryz.func128, Tryz.ntmps128
  go_wp2
  go_ret
  exact ⟨rfl, rfl⟩
theorem abs_pos (x : Nat) (hx : x ≤ 9223372036854775807) : Calls Tryz.prog 132 #[.int .i64 (x : Int)] w (IsRet (.int .u64 (x : Int)) w) := by
  have hw : IntKind.u64.wrap (x : Int) = (x : Int) := by rw [IntKind.wrap_u64]; omega
  go_enter Tryz.func132, Tryz.ntmps132
  go_wp2
  go_ret
  exact ⟨rfl, rfl⟩
theorem abs_neg (x : Nat) (h0 : 0 < x) (hx : x ≤ 9223372036854775807) : Calls Tryz.prog 132 #[.int .i64 (-(x : Int))] w (IsRet (.int .u64 (x : Int)) w) := by
  have hd : decide (-(x : Int) < 0) = true := decide_eq_true (by omega)
  have hw : IntKind.u64.wrap (-IntKind.u64.wrap (-(x : Int))) = (x : Int) := by rw [IntKind.wrap_u64, IntKind.wrap_u64]; omega
  go_enter Tryz.func132, Tryz.ntmps132
  go_wp2
  go_ret
  exact ⟨rfl, rfl⟩

theorem wideMul_spec (x y : Nat) (hx : x < 18446744073709551616) (hy : y < 18446744073709551616) (hp : x * y < 9223372036854775808) (o : Own w R) :
    Calls Tryz.prog 120 #[.int .u64 (x : Int), .int .u64 (y : Int)] w (Ret (.agg #[.int .u64 0, .int .u64 ((x * y : Nat) : Int)]) R w) := by
  have hm : ∀ W : World, Calls Tryz.prog 141 #[.int .u64 (x : Int), .int .u64 (y : Int)] W fun e w' => e = .returned (.tuple #[.int .u64 0, .int .u64 ((x * y : Nat) : Int)]) ∧ w' = W := fun W => by
    have := Any.bits_Mul64 Tryz.mul64 x y hx hy W
    rw [Nat.div_eq_of_lt (by omega), Nat.mod_eq_of_lt (by omega)] at this
    exact this
  have HM := Lib.hid hm
  clear hm
  go_enter Tryz.func120, Tryz.ntmps120
  go_wp2_with fail
  refine (HM.out _).mono ?_
  rintro e1 w1 ⟨rfl, rfl⟩
  go_wp2
  refine bodyPost_ret (v := .agg #[.int .u64 0, .int .u64 ((x * y : Nat) : Int)]) ?_ rfl ?_
  · exact results_cell_row rfl _ _ w.heap.size _ _ (0, 0) _ rfl (heap_alloc_new _ _) Tryz.underlying172 rfl (by kernel_rfl)
  · exact ⟨rfl, (o.alloc _).drop, ⟨rfl, rfl, rfl⟩⟩
theorem div64_spec (x y : Nat) (hx : x < 18446744073709551616) (hy : y < 18446744073709551616) (h0 : 0 < y) :
    Calls Tryz.prog 153 #[.int .u64 0, .int .u64 (x : Int), .int .u64 (y : Int)] w (fun e w' => e = .returned (.tuple #[.int .u64 ((x / y : Nat) : Int), .int .u64 ((x % y : Nat) : Int)]) ∧ ∃ m, w' = w.drewN m) := by
  have h1 : ¬ (y : Int) = 0 := by omega
  have h2 : decide ((y : Int) ≤ 0) = false := decide_eq_false (by omega)
  have hq : x / y ≤ x := Nat.div_le_self x y
  have hw : IntKind.u64.wrap ((x : Int) / (y : Int)) = ((x / y : Nat) : Int) := by
    rw [IntKind.wrap_u64, ← Int.natCast_ediv]
    have hq2 : x / y < 18446744073709551616 := by omega
    generalize x / y = q at *
    omega
  have hr : (x : Int) % (y : Int) = ((x % y : Nat) : Int) := (Int.natCast_emod x y).symm
  go_enter Tryz.func153, Tryz.ntmps153
  go_wp2
  go_quiet (fail)
  go_wp2
  go_ret2
  exact ⟨rfl, _, rfl⟩
def wideV (x : Nat) : Value := .agg #[.int .u64 0, .int .u64 (x : Int)]
theorem wideDiv_spec (x d : Nat) (hx : x < 9223372036854775808) (hd : d < 9223372036854775808) (h0 : 0 < d) (o : Own w R) :
    Calls Tryz.prog 129 #[.agg #[.int .u64 0, .int .u64 (x : Int)], .int .u64 (d : Int)] w (Ret (.tuple #[.int .u64 ((x / d : Nat) : Int), .int .u64 ((x % d : Nat) : Int), .int .i64 0]) R w) := by
  have h1 : decide ((d : Int) ≤ 0) = false := decide_eq_false (by omega)
  have h2 : ¬ (d : Int) = 0 := by omega
  have hm : ∀ W : World, Calls Tryz.prog 153 #[.int .u64 0, .int .u64 (x : Int), .int .u64 (d : Int)] W (fun e w' => e = .returned (.tuple #[.int .u64 ((x / d : Nat) : Int), .int .u64 ((x % d : Nat) : Int)]) ∧ ∃ m, w' = W.drewN m) :=
    fun W => div64_spec x d (by omega) (by omega) h0
  have HM := Lib.hid hm
  clear hm
  generalize x / d = q at *
  generalize x % d = r at *
  go_enter Tryz.func129, Tryz.ntmps129
  go_wp2_with fail
  refine (HM.out _).mono ?_
  rintro e1 w1 ⟨rfl, m, rfl⟩
  go_wp2
  go_ret3
  exact ⟨rfl, o.more _, ⟨rfl, rfl, rfl⟩⟩
theorem away_no (r d : Nat) (neg : Bool) : Calls Tryz.prog 130 #[.int .u64 (r : Int), .int .u64 (d : Int), .int .i64 (if neg then 1 else 0), .bool neg] w (IsRet (.bool false) w) := by
  cases neg
  all_goals
    go_enter Tryz.func130, Tryz.ntmps130
    go_wp2
    go_ret
    exact ⟨rfl, rfl⟩
theorem signed_spec (q : Nat) (neg : Bool) (hq : q < 9223372036854775808) : Calls Tryz.prog 131 #[.int .u64 (q : Int), .bool neg] w (IsRet (.tuple #[.int .i64 (if neg then -(q : Int) else (q : Int)), .int .i64 0]) w) := by
  have h1 : IntKind.i64.wrap (IntKind.u64.wrap (-(q : Int))) = -(q : Int) := by rw [IntKind.wrap_u64, IntKind.wrap_i64]; omega
  have h2 : IntKind.i64.wrap (q : Int) = (q : Int) := by rw [IntKind.wrap_i64]; omega
  have h3 : decide ((q : Int) ≤ 9223372036854775808) = true := decide_eq_true (by omega)
  have h4 : decide ((q : Int) ≤ 9223372036854775807) = true := decide_eq_true (by omega)
  cases neg
  all_goals
    go_enter Tryz.func131, Tryz.ntmps131
    go_wp2
    go_ret2
    exact ⟨rfl, rfl⟩
set_option maxHeartbeats 1600000 in
theorem mulDiv_spec (x b c : Nat) (neg : Bool) (hn : neg = true → 0 < x) (hx : x < 9223372036854775808) (hb : b < 9223372036854775808) (hp : x * b < 9223372036854775808) (hc : c < 9223372036854775808) (h0 : 0 < c) (o : Own w R) :
    Calls Tryz.prog 111 #[.int .i64 (if neg then -(x : Int) else (x : Int)), .int .i64 (b : Int), .int .i64 (c : Int), .int .i64 (if neg then 1 else 0)] w
      (Ret (.tuple #[.int .i64 (if neg then -((x * b / c : Nat) : Int) else ((x * b / c : Nat) : Int)), .int .i64 0]) R w) := by
  have hsa : ∀ W : World, Calls Tryz.prog 128 #[.int .i64 (if neg then -(x : Int) else (x : Int))] W (IsRet (.int .u64 (x : Int)) W) := fun W => by
    cases neg with
    | false => exact size_pos x (by omega)
    | true => exact size_neg x (hn rfl) (by omega)
  have HSA := Lib.hid hsa
  have hsb : ∀ W : World, Calls Tryz.prog 128 #[.int .i64 (b : Int)] W (IsRet (.int .u64 (b : Int)) W) := fun W => size_pos b (by omega)
  have HSB := Lib.hid hsb
  have hsc : ∀ W : World, Calls Tryz.prog 128 #[.int .i64 (c : Int)] W (IsRet (.int .u64 (c : Int)) W) := fun W => size_pos c (by omega)
  have HSC := Lib.hid hsc
  have hq : x * b / c ≤ x * b := Nat.div_le_self _ _
  have hM : ∀ (W : World) (R' : List SP), Own W R' → Calls Tryz.prog 120 #[.int .u64 (x : Int), .int .u64 (b : Int)] W (Ret (.agg #[.int .u64 0, .int .u64 ((x * b : Nat) : Int)]) R' W) :=
    fun W R' o' => wideMul_spec x b (by omega) (by omega) hp o'
  have HM := Lib.hid hM
  have hD : ∀ (W : World) (R' : List SP), Own W R' → Calls Tryz.prog 129 #[.agg #[.int .u64 0, .int .u64 ((x * b : Nat) : Int)], .int .u64 (c : Int)] W (Ret (.tuple #[.int .u64 ((x * b / c : Nat) : Int), .int .u64 ((x * b % c : Nat) : Int), .int .i64 0]) R' W) :=
    fun W R' o' => wideDiv_spec (x * b) c hp hc h0 o'
  have HD := Lib.hid hD
  have hS : ∀ W : World, Calls Tryz.prog 131 #[.int .u64 ((x * b / c : Nat) : Int), .bool neg] W (IsRet (.tuple #[.int .i64 (if neg then -((x * b / c : Nat) : Int) else ((x * b / c : Nat) : Int)), .int .i64 0]) W) :=
    fun W => signed_spec (x * b / c) neg (by omega)
  have HS := Lib.hid hS
  have hA : ∀ W : World, Calls Tryz.prog 130 #[.int .u64 ((x * b % c : Nat) : Int), .int .u64 (c : Int), .int .i64 (if neg then 1 else 0), .bool neg] W (IsRet (.bool false) W) :=
    fun W => away_no (x * b % c) c neg
  have HA := Lib.hid hA
  clear hsa hsb hsc hM hD hS hA
  generalize x * b / c = q at *
  generalize x * b % c = r at *
  generalize x * b = p at *
  have hcn : decide ((c : Int) < 0) = false := decide_eq_false (by omega)
  have hbn : decide ((b : Int) < 0) = false := decide_eq_false (by omega)
  cases neg with
  | false =>
    have han : decide ((x : Int) < 0) = false := decide_eq_false (by omega)
    go_enter Tryz.func111, Tryz.ntmps111
    go_wp2_with fail
    refine (HSC.out _).mono ?_
    rintro e1 w1 ⟨rfl, rfl⟩
    go_wp2_with fail
    refine (HSA.out _).mono ?_
    rintro e1 w1 ⟨rfl, rfl⟩
    go_wp2_with fail
    refine (HSB.out _).mono ?_
    rintro e1 w1 ⟨rfl, rfl⟩
    go_wp2_with fail
    refine (HM.out _ _ o).mono ?_
    rintro e1 w1 ⟨rfl, o1, k1⟩
    go_wp2_with fail
    refine (HD.out _ _ o1).mono ?_
    rintro e2 w2 ⟨rfl, o2, k2⟩
    by_cases hr : r = 0
    · subst hr
      go_wp2_with fail
      refine (HS.out _).mono ?_
      rintro e3 w3 ⟨rfl, rfl⟩
      go_wp2
      go_ret2
      exact ⟨rfl, o2, k1.trans k2⟩
    · have hr0 : decide (0 < r) = true := decide_eq_true (by omega)
      go_wp2_with fail
      refine (HA.out _).mono ?_
      rintro e3 w3 ⟨rfl, rfl⟩
      go_wp2_with fail
      refine (HS.out _).mono ?_
      rintro e3 w3 ⟨rfl, rfl⟩
      go_wp2
      go_ret2
      exact ⟨rfl, o2, k1.trans k2⟩
  | true =>
    have han : decide (-(x : Int) < 0) = true := decide_eq_true (by have := hn rfl; omega)
    go_enter Tryz.func111, Tryz.ntmps111
    go_wp2_with fail
    refine (HSC.out _).mono ?_
    rintro e1 w1 ⟨rfl, rfl⟩
    go_wp2_with fail
    refine (HSA.out _).mono ?_
    rintro e1 w1 ⟨rfl, rfl⟩
    go_wp2_with fail
    refine (HSB.out _).mono ?_
    rintro e1 w1 ⟨rfl, rfl⟩
    go_wp2_with fail
    refine (HM.out _ _ o).mono ?_
    rintro e1 w1 ⟨rfl, o1, k1⟩
    go_wp2_with fail
    refine (HD.out _ _ o1).mono ?_
    rintro e2 w2 ⟨rfl, o2, k2⟩
    by_cases hr : r = 0
    · subst hr
      go_wp2_with fail
      refine (HS.out _).mono ?_
      rintro e3 w3 ⟨rfl, rfl⟩
      go_wp2
      go_ret2
      exact ⟨rfl, o2, k1.trans k2⟩
    · have hr0 : decide (0 < r) = true := decide_eq_true (by omega)
      go_wp2_with fail
      refine (HA.out _).mono ?_
      rintro e3 w3 ⟨rfl, rfl⟩
      go_wp2_with fail
      refine (HS.out _).mono ?_
      rintro e3 w3 ⟨rfl, rfl⟩
      go_wp2
      go_ret2
      exact ⟨rfl, o2, k1.trans k2⟩
theorem rsign_f (q : Nat) (hq : q < 9223372036854775808) : Calls Tryz.prog 134 #[.int .u64 (q : Int), .bool false] w (IsRet (.tuple #[.int .i64 (q : Int), .int .i64 0]) w) := by
  have h2 : IntKind.i64.wrap (q : Int) = (q : Int) := by rw [IntKind.wrap_i64]; omega
  have h4 : decide ((q : Int) < 9223372036854775808) = true := decide_eq_true (by omega)
  clear hq
  go_enter Tryz.func134, Tryz.ntmps134
  go_wp2
  go_ret2
  exact ⟨rfl, rfl⟩
theorem rsign_t (q : Nat) (hq : q < 9223372036854775808) : Calls Tryz.prog 134 #[.int .u64 (q : Int), .bool true] w (IsRet (.tuple #[.int .i64 (-(q : Int)), .int .i64 0]) w) := by
  have h1 : IntKind.i64.wrap (IntKind.u64.wrap (-(q : Int))) = -(q : Int) := by rw [IntKind.wrap_u64, IntKind.wrap_i64]; omega
  have h3 : decide ((q : Int) ≤ 9223372036854775808) = true := decide_eq_true (by omega)
  clear hq
  go_enter Tryz.func134, Tryz.ntmps134
  go_wp2
  go_ret2
  exact ⟨rfl, rfl⟩
set_option maxHeartbeats 800000 in
theorem refMul_spec (x y : Nat) (hx : x < 9223372036854775808) (hy : y < 4294967296) (hp : x * y < 9223372036854775808) (o : Own w R) :
    Calls Tryz.prog 121 #[.int .u64 (x : Int), .int .u64 (y : Int)] w (Ret (.agg #[.int .u64 0, .int .u64 ((x * y : Nat) : Int)]) R w) := by
  have hy1 : (y : Int) / 4294967296 = 0 := by omega
  have hy0 : (y : Int) % 4294967296 = (y : Int) := by omega
  obtain ⟨a1, ha1⟩ : ∃ n, x / 4294967296 = n := ⟨_, rfl⟩
  obtain ⟨a0, ha0⟩ : ∃ n, x % 4294967296 = n := ⟨_, rfl⟩
  have hx1 : (x : Int) / 4294967296 = (a1 : Int) := by omega
  have hx0 : (x : Int) % 4294967296 = (a0 : Int) := by omega
  have hxx : x = a1 * 4294967296 + a0 := by omega
  obtain ⟨P, hP⟩ : ∃ n, a1 * y = n := ⟨_, rfl⟩
  obtain ⟨Q, hQ⟩ : ∃ n, a0 * y = n := ⟨_, rfl⟩
  have hxy : x * y = P * 4294967296 + Q := by rw [hxx, Nat.add_mul, ← hP, ← hQ, Nat.mul_right_comm]
  have wP : IntKind.u64.wrap ((a1 : Int) * (y : Int)) = (P : Int) := by rw [← Int.natCast_mul, hP, IntKind.wrap_u64]; omega
  have wQ : IntKind.u64.wrap ((a0 : Int) * (y : Int)) = (Q : Int) := by rw [← Int.natCast_mul, hQ, IntKind.wrap_u64]; omega
  obtain ⟨Q1, hQ1⟩ : ∃ n, Q / 4294967296 = n := ⟨_, rfl⟩
  obtain ⟨Q0, hQ0⟩ : ∃ n, Q % 4294967296 = n := ⟨_, rfl⟩
  have dQ : (Q : Int) / 4294967296 = (Q1 : Int) := by omega
  have tQ : (Q : Int).tmod 4294967296 = (Q0 : Int) := by rw [Int.tmod_eq_emod_of_nonneg (by omega)]; omega
  obtain ⟨M, hM⟩ : ∃ n, P + Q1 = n := ⟨_, rfl⟩
  have wM : IntKind.u64.wrap ((P : Int) + (Q1 : Int)) = (M : Int) := by rw [IntKind.wrap_u64]; omega
  have tM : (M : Int).tmod 4294967296 = (M : Int) := by rw [Int.tmod_eq_emod_of_nonneg (by omega)]; omega
  have dM : (M : Int) / 4294967296 = 0 := by omega
  have w0 : IntKind.u64.wrap 0 = 0 := by decide
  have wM2 : IntKind.u64.wrap (M : Int) = (M : Int) := by rw [IntKind.wrap_u64]; omega
  obtain ⟨H, hH⟩ : ∃ n, M * 4294967296 = n := ⟨_, rfl⟩
  have wH : IntKind.u64.wrap ((M : Int) * 4294967296) = (H : Int) := by rw [IntKind.wrap_u64]; omega
  have wE : IntKind.u64.wrap ((H : Int) + (Q0 : Int)) = ((x * y : Nat) : Int) := by rw [IntKind.wrap_u64]; omega
  generalize x * y = p at *
  clear hxy hP hQ hxx ha1 ha0 hQ1 hQ0 hM hH
  go_enter Tryz.func121, Tryz.ntmps121
  go_wp2
  refine bodyPost_ret (v := .agg #[.int .u64 0, .int .u64 (p : Int)]) ?_ rfl ?_
  · exact results_cell_row rfl _ _ w.heap.size _ _ (0, 0) _ rfl (heap_alloc_new _ _) Tryz.underlying172 rfl (by kernel_rfl)
  · exact ⟨rfl, (o.alloc _).drop, ⟨rfl, rfl, rfl⟩⟩
def ivOf : Value → Int
  | .int _ q => q
  | _ => 0
theorem div_step {A q r d bit : Nat} (hd : 0 < d) (hA : A / d = q) (hr : A % d = r) (_hb : bit < 2) :
    ((2 * A + bit) / d = if 2 * r + bit < d then 2 * q else 2 * q + 1) ∧ (2 * A + bit) % d = if 2 * r + bit < d then 2 * r + bit else 2 * r + bit - d := by
  have e : d * q + r = A := by rw [← hA, ← hr]; exact Nat.div_add_mod A d
  have hlt : r < d := by rw [← hr]; exact Nat.mod_lt _ hd
  by_cases h : 2 * r + bit < d
  · rw [if_pos h, if_pos h]
    refine (Nat.div_mod_unique hd).2 ⟨?_, h⟩
    rw [← e, Nat.mul_add, Nat.mul_left_comm]; omega
  · rw [if_neg h, if_neg h]
    refine (Nat.div_mod_unique hd).2 ⟨?_, by omega⟩
    rw [← e, Nat.mul_add, Nat.mul_add, Nat.mul_left_comm, Nat.mul_one]; omega
def DivRel (x d b : Nat) (R : List SP) (w : World) (v7 v8 v9 : Value) (wr : World) : Prop :=
  ∃ i : Nat, i ≤ 64 ∧ v7 = .int .u64 ((x / 2 ^ i % d : Nat) : Int) ∧ v8 = .int .u64 ((x / 2 ^ i / d : Nat) : Int) ∧ v9 = .int .i64 ((i : Int) - 1) ∧
    Own wr (cel b 172 [.int .u64 0, .int .u64 (x : Int)] :: R) ∧ Calm w wr
set_option maxHeartbeats 1600000 in
theorem refDiv_spec (x d : Nat) (hx : x < 9223372036854775808) (hd : d < 9223372036854775808) (h0 : 0 < d) (o : Own w R) :
    Calls Tryz.prog 133 #[.agg #[.int .u64 0, .int .u64 (x : Int)], .int .u64 (d : Int)] w (Ret (.tuple #[.int .u64 ((x / d : Nat) : Int), .int .u64 ((x % d : Nat) : Int), .int .i64 0]) R w) := by
  have h1 : decide ((d : Int) ≤ 0) = false := decide_eq_false (by omega)
  have h2 : ¬ (d : Int) = 0 := by omega
  have hst : DivRel x d w.heap.size R w (.int .u64 0) (.int .u64 0) (.int .i64 63) (w.alloc (.cells #[.int .u64 0, .int .u64 (x : Int)] 172)) := by
    have e : x / 2 ^ 64 = 0 := Nat.div_eq_of_lt (by omega)
    refine ⟨64, by omega, ?_, ?_, rfl, o.alloc _, ⟨rfl, rfl, rfl⟩⟩
    · rw [e, Nat.zero_mod]; rfl
    · rw [e, Nat.zero_div]; rfl
  go_enter Tryz.func133, Tryz.ntmps133
  go_wp2
  go_loopw [7, 8, 9] (fun v7 v8 v9 wr => DivRel x d w.heap.size R w v7 v8 v9 wr) (fun _ _ v _ => (ivOf v + 1).toNat)
  case atStart => exact hst
  case round =>
    clear hst
    obtain ⟨i, hi, rfl, rfl, rfl, oR, kR⟩ := hrel
    have c1 := oR.cell 1
    cases i with
    | zero =>
      have f0 : decide (0 ≤ ((0 : Nat) : Int) - 1) = false := by decide
      simp only [Nat.pow_zero, Nat.div_one]
      go_wp2
      go_ret3
      exact ⟨rfl, oR.drop, kR⟩
    | succ k =>
      have hk : ((k + 1 : Nat) : Int) - 1 = (k : Int) := by omega
      rw [hk]
      obtain ⟨A, hA⟩ : ∃ A, x / 2 ^ (k + 1) = A := ⟨_, rfl⟩
      obtain ⟨B, hB⟩ : ∃ B, x / 2 ^ k = B := ⟨_, rfl⟩
      have hAB : B / 2 = A := by rw [← hA, ← hB, Nat.div_div_eq_div_mul, ← Nat.pow_succ]
      have hBx : B ≤ x := by rw [← hB]; exact Nat.div_le_self _ _
      rw [hA]
      obtain ⟨q, hq⟩ : ∃ q, A / d = q := ⟨_, rfl⟩
      obtain ⟨r, hr⟩ : ∃ r, A % d = r := ⟨_, rfl⟩
      obtain ⟨bit, hb⟩ : ∃ b, B % 2 = b := ⟨_, rfl⟩
      have hqA : q ≤ A := by rw [← hq]; exact Nat.div_le_self _ _
      have hrd : r < d := by rw [← hr]; exact Nat.mod_lt _ h0
      obtain ⟨s1, s2⟩ := div_step (bit := bit) h0 hq hr (by omega)
      rw [show 2 * A + bit = B by omega] at s1 s2
      rw [hq, hr]
      have hsh : ((x : Int) / 2 ^ k).tmod 2 = (bit : Int) := by
        have : ((x : Int) / 2 ^ k) = (B : Int) := by rw [← hB, Int.natCast_ediv, Int.natCast_pow]; rfl
        rw [this, Int.tmod_eq_emod_of_nonneg (by omega)]; omega
      obtain ⟨r2, hr2⟩ : ∃ n, 2 * r + bit = n := ⟨_, rfl⟩
      obtain ⟨q2, hq2⟩ : ∃ n, 2 * q = n := ⟨_, rfl⟩
      have w1 : IntKind.u64.wrap ((r : Int) * 2) = (r : Int) * 2 := by rw [IntKind.wrap_u64]; omega
      have w2 : IntKind.u64.wrap ((r : Int) * 2 + (bit : Int)) = (r2 : Int) := by rw [IntKind.wrap_u64]; omega
      have w3 : IntKind.u64.wrap ((q : Int) * 2) = (q2 : Int) := by rw [IntKind.wrap_u64]; omega
      have d1 : (r : Int) / 9223372036854775808 = 0 := by omega
      have d2 : ¬ (r : Int) / 9223372036854775808 = 1 := by omega
      have f0 : decide (0 ≤ (k : Int)) = true := decide_eq_true (by omega)
      rw [hr2] at s1 s2
      rw [hq2] at s1
      have HB := Lib.hid hB
      by_cases hlt : r2 < d
      · rw [if_pos hlt] at s1 s2
        have f1 : decide ((d : Int) ≤ (r2 : Int)) = false := decide_eq_false (by omega)
        have f2 : decide (d ≤ r2) = false := decide_eq_false (by omega)
        clear hA hAB hB hr hq hb hr2 hq2 hqA hBx hrd
        go_wp2
        go_roundw
        case rel => exact ⟨k, by omega, by rw [HB.out, s2], (by rw [HB.out, s1]; first | done | rfl), rfl, oR, kR⟩
        case measure => simp [ivOf]
      · rw [if_neg hlt] at s1 s2
        have f1 : decide ((d : Int) ≤ (r2 : Int)) = true := decide_eq_true (by omega)
        have f2 : decide (d ≤ r2) = true := decide_eq_true (by omega)
        have w4 : IntKind.u64.wrap ((r2 : Int) - (d : Int)) = ((r2 - d : Nat) : Int) := by rw [IntKind.wrap_u64]; omega
        have w5 : IntKind.u64.wrap ((q2 : Int) + 1) = ((q2 + 1 : Nat) : Int) := by rw [IntKind.wrap_u64]; omega
        clear hA hAB hB hr hq hb hr2 hq2 hqA hBx hrd
        go_wp2
        go_roundw
        case rel => exact ⟨k, by omega, by rw [HB.out, s2], (by rw [HB.out, s1]; first | done | rfl), rfl, oR, kR⟩
        case measure => simp [ivOf]
set_option maxHeartbeats 1600000 in
theorem refMulDiv_spec (x b c : Nat) (neg : Bool) (hn : neg = true → 0 < x) (hx : x < 9223372036854775808) (hb : b < 4294967296) (hp : x * b < 9223372036854775808) (hc : c < 9223372036854775808) (h0 : 0 < c) (o : Own w R) :
    Calls Tryz.prog 113 #[.int .i64 (if neg then -(x : Int) else (x : Int)), .int .i64 (b : Int), .int .i64 (c : Int), .int .i64 (if neg then 1 else 0)] w
      (Ret (.tuple #[.int .i64 (if neg then -((x * b / c : Nat) : Int) else ((x * b / c : Nat) : Int)), .int .i64 0]) R w) := by
  have hsa : ∀ W : World, Calls Tryz.prog 132 #[.int .i64 (if neg then -(x : Int) else (x : Int))] W (IsRet (.int .u64 (x : Int)) W) := fun W => by
    cases neg with
    | false => exact abs_pos x (by omega)
    | true => exact abs_neg x (hn rfl) (by omega)
  have HSA := Lib.hid hsa
  have hsb : ∀ W : World, Calls Tryz.prog 132 #[.int .i64 (b : Int)] W (IsRet (.int .u64 (b : Int)) W) := fun W => abs_pos b (by omega)
  have HSB := Lib.hid hsb
  have hsc : ∀ W : World, Calls Tryz.prog 132 #[.int .i64 (c : Int)] W (IsRet (.int .u64 (c : Int)) W) := fun W => abs_pos c (by omega)
  have HSC := Lib.hid hsc
  have hq : x * b / c ≤ x * b := Nat.div_le_self _ _
  have hM : ∀ (W : World) (R' : List SP), Own W R' → Calls Tryz.prog 121 #[.int .u64 (x : Int), .int .u64 (b : Int)] W (Ret (.agg #[.int .u64 0, .int .u64 ((x * b : Nat) : Int)]) R' W) :=
    fun W R' o' => refMul_spec x b hx hb hp o'
  have HM := Lib.hid hM
  have hD : ∀ (W : World) (R' : List SP), Own W R' → Calls Tryz.prog 133 #[.agg #[.int .u64 0, .int .u64 ((x * b : Nat) : Int)], .int .u64 (c : Int)] W (Ret (.tuple #[.int .u64 ((x * b / c : Nat) : Int), .int .u64 ((x * b % c : Nat) : Int), .int .i64 0]) R' W) :=
    fun W R' o' => refDiv_spec (x * b) c hp hc h0 o'
  have HD := Lib.hid hD
  have hSf : ∀ W : World, Calls Tryz.prog 134 #[.int .u64 ((x * b / c : Nat) : Int), .bool false] W (IsRet (.tuple #[.int .i64 ((x * b / c : Nat) : Int), .int .i64 0]) W) :=
    fun W => rsign_f (x * b / c) (by omega)
  have HSf := Lib.hid hSf
  have hSt : ∀ W : World, Calls Tryz.prog 134 #[.int .u64 ((x * b / c : Nat) : Int), .bool true] W (IsRet (.tuple #[.int .i64 (-((x * b / c : Nat) : Int)), .int .i64 0]) W) :=
    fun W => rsign_t (x * b / c) (by omega)
  have HSt := Lib.hid hSt
  clear hsa hsb hsc hM hD hSf hSt
  generalize x * b / c = q at *
  generalize x * b % c = r at *
  generalize x * b = p at *
  have hcn : decide ((c : Int) < 0) = false := decide_eq_false (by omega)
  have hbn : decide ((b : Int) < 0) = false := decide_eq_false (by omega)
  have hc0 : ((c : Int) == 0) = false := by simp; omega
  have hqn : ¬ q = 18446744073709551615 := by omega
  have hqm : ((q : Int) == 18446744073709551615) = false := by simp; omega
  cases neg with
  | false =>
    have han : decide ((x : Int) < 0) = false := decide_eq_false (by omega)
    go_enter Tryz.func113, Tryz.ntmps113
    go_wp2_with fail
    refine (HSC.out _).mono ?_
    rintro e1 w1 ⟨rfl, rfl⟩
    go_wp2_with fail
    refine (HSA.out _).mono ?_
    rintro e1 w1 ⟨rfl, rfl⟩
    go_wp2_with fail
    refine (HSB.out _).mono ?_
    rintro e1 w1 ⟨rfl, rfl⟩
    go_wp2_with fail
    refine (HM.out _ _ o).mono ?_
    rintro e1 w1 ⟨rfl, o1, k1⟩
    go_wp2_with fail
    refine (HD.out _ _ o1).mono ?_
    rintro e2 w2 ⟨rfl, o2, k2⟩
    by_cases hr : r = 0
    · subst hr
      go_wp2_with fail
      refine (HSf.out _).mono ?_
      rintro e3 w3 ⟨rfl, rfl⟩
      go_wp2
      go_ret2
      exact ⟨rfl, o2, k1.trans k2⟩
    · have hr0 : ((r : Int) == 0) = false := by simp; omega
      go_wp2_with fail
      refine (HSf.out _).mono ?_
      rintro e3 w3 ⟨rfl, rfl⟩
      go_wp2
      go_ret2
      exact ⟨rfl, o2, k1.trans k2⟩
  | true =>
    have han : decide (-(x : Int) < 0) = true := decide_eq_true (by have := hn rfl; omega)
    go_enter Tryz.func113, Tryz.ntmps113
    go_wp2_with fail
    refine (HSC.out _).mono ?_
    rintro e1 w1 ⟨rfl, rfl⟩
    go_wp2_with fail
    refine (HSA.out _).mono ?_
    rintro e1 w1 ⟨rfl, rfl⟩
    go_wp2_with fail
    refine (HSB.out _).mono ?_
    rintro e1 w1 ⟨rfl, rfl⟩
    go_wp2_with fail
    refine (HM.out _ _ o).mono ?_
    rintro e1 w1 ⟨rfl, o1, k1⟩
    go_wp2_with fail
    refine (HD.out _ _ o1).mono ?_
    rintro e2 w2 ⟨rfl, o2, k2⟩
    by_cases hq0 : q = 0
    · subst hq0
      by_cases hr : r = 0
      · subst hr
        go_wp2_with fail
        refine (HSf.out _).mono ?_
        rintro e3 w3 ⟨rfl, rfl⟩
        go_wp2
        go_ret2
        exact ⟨rfl, o2, k1.trans k2⟩
      · have hr0 : ((r : Int) == 0) = false := by simp; omega
        go_wp2_with fail
        refine (HSf.out _).mono ?_
        rintro e3 w3 ⟨rfl, rfl⟩
        go_wp2
        go_ret2
        exact ⟨rfl, o2, k1.trans k2⟩
    · have hq1 : decide (0 < q) = true := decide_eq_true (by omega)
      by_cases hr : r = 0
      · subst hr
        go_wp2_with fail
        refine (HSt.out _).mono ?_
        rintro e3 w3 ⟨rfl, rfl⟩
        go_wp2
        go_ret2
        exact ⟨rfl, o2, k1.trans k2⟩
      · have hr0 : ((r : Int) == 0) = false := by simp; omega
        go_wp2_with fail
        refine (HSt.out _).mono ?_
        rintro e3 w3 ⟨rfl, rfl⟩
        go_wp2
        go_ret2
        exact ⟨rfl, o2, k1.trans k2⟩
end
end Go.Proofs.YtjpahfkchhnpoaaGreat

/- Lists of parts, read behind whatever holds them. -/
namespace Go.Proofs.YtjpahfkchhnpoaaGreat
open Go.RowKit
open SP
section
variable {w w' : World} {R : List SP}
def part (p : Int × Int) : List Value := [.int .i64 p.1, .int .i64 p.2]
theorem part_len (p : Int × Int) : (part p).length = 2 := rfl
theorem Tryz.partT : ElemT Tryz.prog 102 145 2 16 := ElemT.mk' (z := .agg #[.int .i64 0, .int .i64 0]) Tryz.underlying102 (by kernel_rfl) rfl (by decide)

theorem part_cells {l : List (Int × Int)} {a : Option Addr} {n c : Nat} (o : Own w (slc 145 2 a n c (flat part l) :: R)) {i : Nat} {y : Int × Int} (hy : l[i]? = some y) (hn : 0 < n) :
    ∃ g, a = some ⟨g, 0, none⟩ ∧ w.cell? ⟨g, i * 2, none⟩ = some (.int .i64 y.1) ∧ w.cell? ⟨g, i * 2 + 1, none⟩ = some (.int .i64 y.2) := by
  obtain ⟨g, h, hc, hf, hg⟩ := o.slc_cell hn
  exact ⟨g, h, by simpa using hc (i * 2 + 0) _ (flat_get part_len l i 0 y hy (by omega)), hc (i * 2 + 1) _ (flat_get part_len l i 1 y hy (by omega))⟩

theorem drop_cons {α : Type} {l : List α} {i : Nat} {x : α} (h : l[i]? = some x) : l.drop i = x :: l.drop (i + 1) := by
  obtain ⟨h1, h2⟩ := List.getElem?_eq_some_iff.1 h
  rw [List.drop_eq_getElem_cons h1, h2]

/-- The list of parts that a slice at a holds, read behind S. -/
def PartsAt (S : SP) (a : Option Addr) (l : List (Int × Int)) : Prop := ∀ (w : World) (R : List SP), Own w (S :: R) → ∀ (i : Nat) (y : Int × Int), l[i]? = some y →
  ∃ g so, a = some ⟨g, so, none⟩ ∧ w.cell? ⟨g, so + i * 2, none⟩ = some (.int .i64 y.1) ∧ w.cell? ⟨g, so + i * 2 + 1, none⟩ = some (.int .i64 y.2)
theorem partsAt_slc (a : Option Addr) (n c : Nat) (l : List (Int × Int)) (hn : n = l.length) : PartsAt (slc 145 2 a n c (flat part l)) a l := by
  intro w R o i y hy
  have := (List.getElem?_eq_some_iff.1 hy).1
  obtain ⟨g, h1, h2, h3⟩ := part_cells o hy (by omega)
  exact ⟨g, 0, h1, by rw [Nat.zero_add]; exact h2, by rw [Nat.zero_add]; exact h3⟩

end
end Go.Proofs.YtjpahfkchhnpoaaGreat

/- Shares by weights: shares.Split. -/
namespace Go.Proofs.YtjpahfkchhnpoaaGreat
open Go.RowKit
open SP
section
variable {w w' : World} {R : List SP}

/-- A list of flows with weights. -/
structure PtOk (l : List (Int × Int)) : Prop where
  asc : l.Pairwise (fun a b => a.1 < b.1)
  rng : ∀ p ∈ l, 0 ≤ p.1 ∧ p.1 < 32 ∧ 1 ≤ p.2 ∧ p.2 ≤ 16
  len : l.length ≤ 32
def pws (l : List (Int × Int)) : List Int := l.map (·.2)

def SvRel (l : List (Int × Int)) (Sp : SP) (R : List SP) (w : World) (v3 v8 : Value) (wr : World) : Prop :=
  ∃ (i : Nat) (last : Int), v8 = .int .i64 (i : Int) ∧ v3 = .int .i64 last ∧ i ≤ l.length ∧ (∀ t, l[i]? = some t → last < t.1) ∧ Own wr (Sp :: R) ∧ Calm w wr
set_option maxHeartbeats 3200000 in
set_option maxRecDepth 100000 in
theorem shValid_spec {Sp : SP} {l : List (Int × Int)} {a : Option Addr} {n c : Nat} (hS : PartsAt Sp a l) (hok : PtOk l) (hn : n = l.length) (o : Own w (Sp :: R)) :
    Calls Tryz.prog 110 #[.slice a n c] w (Ret (.bool true) (Sp :: R) w) := by
  have hT : SvRel l Sp R w (.int .i64 (-1)) (.int .i64 0) w := ⟨0, -1, rfl, rfl, by omega, fun t ht => by have := hok.rng t (List.mem_of_getElem? ht); omega, o, Calm.refl w⟩
  have hl := hok.len
  have hn2 : n ≤ 32 := by omega
  have hn64 : decide ((n : Int) ≤ 64) = true := decide_eq_true (by omega)
  have Hn := Lib.hid hn
  clear hn
  go_enter Tryz.func110, Tryz.ntmps110
  go_wp2
  go_loopw [3, 8] (fun v3 v8 wr => SvRel l Sp R w v3 v8 wr) (fun _ v8 _ => n - (ivOf v8).toNat)
  case atStart => exact hT
  case round =>
    clear hT
    obtain ⟨i, last, rfl, rfl, hi, hlast, oR, kR⟩ := hrel
    by_cases hlt : i < n
    · obtain ⟨t, ht⟩ : ∃ t, l[i]? = some t := ⟨_, List.getElem?_eq_getElem (by have := Hn.out; omega)⟩
      obtain ⟨g, so, rfl, d0, d1⟩ := hS _ _ oR i _ ht
      have h1 := hlast t ht
      have h2 := hok.rng t (List.mem_of_getElem? ht)
      have hnext : ∀ u, l[i + 1]? = some u → t.1 < u.1 := fun u hu => by
        have := List.pairwise_iff_getElem.1 hok.asc i (i + 1) (List.getElem?_eq_some_iff.1 ht).1 (List.getElem?_eq_some_iff.1 hu).1 (by omega)
        rw [(List.getElem?_eq_some_iff.1 ht).2, (List.getElem?_eq_some_iff.1 hu).2] at this
        exact this
      have HN := Lib.hid hnext
      obtain ⟨x, y⟩ := t
      dsimp only at d0 d1 h1 h2 HN
      clear ht hlast hnext
      obtain ⟨h2, h3, h4, h5⟩ := h2
      have f1 : decide (x ≤ last) = false := decide_eq_false (by omega)
      have f2 : decide (y < 1) = false := decide_eq_false (by omega)
      have f3 : decide (2147483648 < y) = false := decide_eq_false (by omega)
      have oA := oR.alloc (.cells #[.int .i64 x, .int .i64 y] 145)
      go_wp2
      go_roundw
      case rel => exact ⟨i + 1, x, by go_num, rfl, by have := Hn.out; omega, HN.out, oA.drop, ⟨kR.os, kR.tape, kR.output⟩⟩
      case measure => simp [ivOf]; omega
    · go_wp2
      go_ret
      exact ⟨rfl, oR, kR⟩
theorem trunc_eq (x b c : Nat) (neg : Bool) : ((if neg then -(x : Int) else (x : Int)) * (b : Int)).tdiv (c : Int) = if neg then -((x * b / c : Nat) : Int) else ((x * b / c : Nat) : Int) := by
  cases neg
  · show ((x : Int) * (b : Int)).tdiv (c : Int) = _
    rw [← Int.natCast_mul]; rfl
  · show (-(x : Int) * (b : Int)).tdiv (c : Int) = -_
    rw [Int.neg_mul, Int.neg_tdiv, ← Int.natCast_mul]; rfl
theorem magn (a : Int) : ∃ (x : Nat) (neg : Bool), (a = if neg then -(x : Int) else (x : Int)) ∧ (neg = true → 0 < x) ∧ neg = decide (a < 0) ∧ (x : Int) = ab a := by
  by_cases h : a < 0
  · exact ⟨(-a).toNat, true, by simp; omega, fun _ => by omega, by simp [h], by unfold ab; omega⟩
  · exact ⟨a.toNat, false, by simp; omega, fun h => by simp at h, by simp [h], by unfold ab; omega⟩
theorem magn_mul (x b : Nat) (hx : x ≤ 36028797018963968) (hb : b ≤ 16) : x * b < 9223372036854775808 := by
  have := Nat.mul_le_mul hx hb
  omega
theorem mulDivI_spec (a wt T : Int) (ha : ab a ≤ 36028797018963968) (h1 : 1 ≤ wt) (h2 : wt ≤ 16) (h3 : 1 ≤ T) (h4 : T ≤ 1000000) (o : Own w R) :
    Calls Tryz.prog 111 #[.int .i64 a, .int .i64 wt, .int .i64 T, .int .i64 (if a < 0 then 1 else 0)] w (Ret (.tuple #[.int .i64 ((a * wt).tdiv T), .int .i64 0]) R w) := by
  obtain ⟨x, neg, e, hn, hd, hx⟩ := magn a
  obtain ⟨b, rfl⟩ : ∃ b : Nat, wt = (b : Int) := ⟨wt.toNat, by omega⟩
  obtain ⟨c, rfl⟩ : ∃ c : Nat, T = (c : Int) := ⟨T.toNat, by omega⟩
  have := mulDiv_spec x b c neg hn (by omega) (by omega) (magn_mul x b (by omega) (by omega)) (by omega) (by omega) o
  rw [← trunc_eq, ← e] at this
  have e2 : (if a < 0 then (1 : Int) else 0) = if neg then 1 else 0 := by rw [hd]; by_cases h : a < 0 <;> simp [h]
  rw [e2]; exact this
theorem refMulDivI_spec (a wt T : Int) (ha : ab a ≤ 36028797018963968) (h1 : 1 ≤ wt) (h2 : wt ≤ 16) (h3 : 1 ≤ T) (h4 : T ≤ 1000000) (o : Own w R) :
    Calls Tryz.prog 113 #[.int .i64 a, .int .i64 wt, .int .i64 T, .int .i64 (if a < 0 then 1 else 0)] w (Ret (.tuple #[.int .i64 ((a * wt).tdiv T), .int .i64 0]) R w) := by
  obtain ⟨x, neg, e, hn, hd, hx⟩ := magn a
  obtain ⟨b, rfl⟩ : ∃ b : Nat, wt = (b : Int) := ⟨wt.toNat, by omega⟩
  obtain ⟨c, rfl⟩ : ∃ c : Nat, T = (c : Int) := ⟨T.toNat, by omega⟩
  have := refMulDiv_spec x b c neg hn (by omega) (by omega) (magn_mul x b (by omega) (by omega)) (by omega) (by omega) o
  rw [← trunc_eq, ← e] at this
  have e2 : (if a < 0 then (1 : Int) else 0) = if neg then 1 else 0 := by rw [hd]; by_cases h : a < 0 <;> simp [h]
  rw [e2]; exact this

def i64s (l : List Int) : List Value := l.map (Value.int .i64)
theorem madeZeros (n : Nat) : madeCells (Value.int .i64 0).cells n = (List.replicate n (Value.int .i64 0)).toArray := by
  apply Array.ext'
  unfold madeCells
  simp only [Array.toList_map, Array.toList_range]
  refine List.ext_getElem (by simp) fun i h1 h2 => ?_
  simp only [List.getElem_map, List.getElem_range, List.getElem_replicate]
  show (#[Value.int .i64 0] : Array Value)[i % 1]! = _
  rw [Nat.mod_one]; rfl
theorem makeI_run (n : Nat) (hn : n ≤ 1000000) (W : World) :
    (Instr.makeSlice 28 (.int .i64 (n : Int)) (.int .i64 (n : Int))).run Tryz.prog W = .ok (.slice (some ⟨W.heap.size, 0, none⟩) n n) (W.alloc (.cells (List.replicate n (Value.int .i64 0)).toArray 2)) := by
  have hh : (Tryz.prog.info? 2).map (fun i => (i.zero, i.size, i.bytes)) = some (some (.int .i64 0), 1, 8) := by kernel_rfl
  obtain ⟨i, hi, he⟩ := Option.map_eq_some_iff.1 hh
  simp only [Prod.mk.injEq] at he
  obtain ⟨hz, hs, hb⟩ := he
  have := run_make (P := Tryz.prog) W 28 2 i (.int .i64 0) Tryz.underlying28 hi hz .i64 .i64 (n : Int) (n : Int) (by omega) (Int.le_refl _) (by rw [hb]; omega) (by omega)
  rw [hs, Int.toNat_natCast, Nat.mul_one, madeZeros] at this
  exact this

theorem pws_pos {l : List (Int × Int)} (h : PtOk l) : ∀ x ∈ pws l, 1 ≤ x := by
  intro x hx
  obtain ⟨p, hp, rfl⟩ := List.mem_map.1 hx
  exact (h.rng p hp).2.2.1
theorem sumI_le : ∀ (l : List Int), (∀ x ∈ l, x ≤ 16) → sumI l ≤ 16 * (l.length : Int)
  | [], _ => by show (0 : Int) ≤ _; simp
  | x :: l, h => by
    have := sumI_le l fun y hy => h y (by simp [hy])
    have := h x (by simp)
    rw [sumI_cons, List.length_cons]; omega
theorem sumI_nonneg : ∀ (l : List Int), (∀ x ∈ l, 0 ≤ x) → 0 ≤ sumI l
  | [], _ => Int.le_refl _
  | x :: l, h => by
    have := sumI_nonneg l fun y hy => h y (by simp [hy])
    have := h x (by simp)
    rw [sumI_cons]; omega
def SpRel1 (l : List (Int × Int)) (Sp : SP) (R : List SP) (w : World) (v6 v24 : Value) (wr : World) : Prop :=
  ∃ (i : Nat) (s : Int), v24 = .int .i64 (i : Int) ∧ v6 = .int .i64 s ∧ i ≤ l.length ∧ 0 ≤ s ∧ s + sumI (pws (l.drop i)) = sumI (pws l) ∧ Own wr (Sp :: R) ∧ Calm w wr
def SpRel2 (a T : Int) (l : List (Int × Int)) (g : Nat) (Sp : SP) (R : List SP) (w : World) (v11 v41 : Value) (wr : World) : Prop :=
  ∃ (i : Nat) (s : Int), v41 = .int .i64 (i : Int) ∧ v11 = .int .i64 (a - s) ∧ i ≤ l.length ∧ s = sumI ((truncs a T (pws l)).take i) ∧ ab s ≤ (i : Int) * 36028797018963968 ∧
    Own wr (cel g 2 (i64s ((truncs a T (pws l)).take i) ++ List.replicate (l.length - i) (.int .i64 0)) :: Sp :: R) ∧ Calm w wr
def ShPost (a : Int) (l : List (Int × Int)) (Sp : SP) (R : List SP) (w : World) (e : Ending) (w' : World) : Prop :=
  ∃ g c, e = .returned (.tuple #[.slice g l.length c, .int .i64 (if l = [] then 5 else 0)]) ∧ Own w' (slc 2 1 g l.length c (i64s (lagSplit a (pws l))) :: Sp :: R) ∧ Calm w w'
theorem pws_drop {l : List (Int × Int)} {i : Nat} {p : Int × Int} (h : l[i]? = some p) : sumI (pws (l.drop i)) = p.2 + sumI (pws (l.drop (i + 1))) := by
  rw [drop_cons h]; rfl
theorem truncs_get {l : List (Int × Int)} {i : Nat} {p : Int × Int} (a T : Int) (h : l[i]? = some p) : (truncs a T (pws l))[i]? = some ((a * p.2).tdiv T) := by
  unfold truncs pws
  rw [List.getElem?_map, List.getElem?_map, h]; rfl
theorem take_next {l : List Int} {i : Nat} {x : Int} (h : l[i]? = some x) : l.take (i + 1) = l.take i ++ [x] := by rw [List.take_add_one, h]; rfl
theorem sumI_snoc (l : List Int) (x : Int) : sumI (l ++ [x]) = sumI l + x := by
  rw [sumI_append]; show _ + (x + 0) = _; omega
theorem truncs_len (a T : Int) (W : List Int) : (truncs a T W).length = W.length := by unfold truncs; rw [List.length_map]
/-- One more of the row's numbers stored. -/
theorem zeros_set {ds : List Int} {i n : Nat} {x : Int} (hx : ds[i]? = some x) (hi : i < n) :
    (i64s (ds.take i) ++ List.replicate (n - i) (Value.int .i64 0)).set i (.int .i64 x) = i64s (ds.take (i + 1)) ++ List.replicate (n - (i + 1)) (Value.int .i64 0) := by
  have hl : (i64s (ds.take i)).length = i := by
    unfold i64s; rw [List.length_map, List.length_take]; have := (List.getElem?_eq_some_iff.1 hx).1; omega
  rw [List.set_append_right _ _ (by omega), hl, Nat.sub_self, take_next hx]
  obtain ⟨k, hk⟩ : ∃ k, n - i = k + 1 := ⟨n - i - 1, by omega⟩
  rw [hk, List.replicate_succ, List.set_cons_zero, show n - (i + 1) = k by omega]
  unfold i64s
  rw [List.map_append, List.append_assoc]; rfl

theorem trunc_abs (a y s : Int) (h0 : 0 ≤ y) (h1 : y ≤ s) (hs : 1 ≤ s) : ab ((a * y).tdiv s) ≤ ab a := by
  have h : ((a * y).tdiv s).natAbs ≤ a.natAbs := by
    rw [Int.natAbs_tdiv, Int.natAbs_mul]
    have hys : y.natAbs ≤ s.natAbs := by omega
    have : a.natAbs * y.natAbs ≤ a.natAbs * s.natAbs := Nat.mul_le_mul_left _ hys
    calc a.natAbs * y.natAbs / s.natAbs ≤ a.natAbs * s.natAbs / s.natAbs := Nat.div_le_div_right this
      _ = a.natAbs := Nat.mul_div_cancel _ (by omega)
  unfold ab
  omega
theorem mem_le_sumI : ∀ {l : List Int}, (∀ x ∈ l, 0 ≤ x) → ∀ {y : Int}, y ∈ l → y ≤ sumI l
  | x :: l, h, y, hy => by
    have h1 := sumI_nonneg l fun z hz => h z (by simp [hz])
    rw [sumI_cons]
    rcases List.mem_cons.1 hy with rfl | hy
    · omega
    · have := mem_le_sumI (fun z hz => h z (by simp [hz])) hy
      have := h x (by simp)
      omega
theorem zeros_at {ds : List Int} {j n : Nat} (hl : ds.length = n) (hj : j < n) :
    (i64s (ds.take j) ++ List.replicate (n - j) (Value.int .i64 0))[j]? = some (.int .i64 0) := by
  have h : (i64s (ds.take j)).length = j := by unfold i64s; rw [List.length_map, List.length_take]; omega
  rw [List.getElem?_append_right (by omega), h, Nat.sub_self, List.getElem?_replicate, if_pos (by omega)]
theorem zeros_end {ds : List Int} {n : Nat} (hl : ds.length = n) : i64s (ds.take n) ++ List.replicate (n - n) (Value.int .i64 0) = i64s ds := by
  rw [Nat.sub_self, List.replicate_zero, List.append_nil, List.take_of_length_le (by omega)]
theorem sh_end {a : Int} {l : List (Int × Int)} {Sp : SP} {R : List SP} {w w1 : World} {g : Nat} {q0 : Int} {ds : List Int} (hd : truncs a (sumI (pws l)) (pws l) = q0 :: ds) (hl : l.length ≤ 32)
    (o : Own w1 (cel g 2 ((i64s (q0 :: ds)).set 0 (.int .i64 (q0 + (a - sumI (q0 :: ds))))) :: Sp :: R)) (k : Calm w w1) (hne : l ≠ []) :
    ShPost a l Sp R w (.returned (.tuple #[.slice (some ⟨g, 0, none⟩) l.length l.length, .int .i64 0])) w1 := by
  have hlen : (q0 :: ds).length = l.length := by rw [← hd, truncs_len]; unfold pws; rw [List.length_map]
  refine ⟨some ⟨g, 0, none⟩, l.length, by rw [if_neg hne], Own.slc.2 (.inr ⟨g, [], rfl, by omega, by unfold maxLen; omega, ?_, by simp, ?_⟩), k⟩
  · unfold i64s lagSplit; rw [List.length_map, addHd_len, hd, hlen, Nat.mul_one]
  · rw [List.append_nil]
    unfold lagSplit
    rw [hd]
    exact o
set_option maxHeartbeats 3200000 in
set_option maxRecDepth 100000 in
theorem shSplit_spec {Sp : SP} {l : List (Int × Int)} {ar : Option Addr} {n c : Nat} (a : Int) (ha : ab a ≤ 36028797018963968) (hS : PartsAt Sp ar l) (hok : PtOk l) (hn : n = l.length) (o : Own w (Sp :: R)) :
    Calls Tryz.prog 81 #[.int .i64 a, .slice ar n c] w (ShPost a l Sp R w) := by
  have hv := shValid_spec (c := c) hS hok hn o
  have hl := hok.len
  have hn2 : n ≤ 32 := by omega
  by_cases h0 : l = []
  · subst h0
    have : n = 0 := hn
    subst this
    clear hn hl hn2 hok hS
    go_enter Tryz.func81, Tryz.ntmps81
    go_wp2_with fail
    refine hv.mono ?_
    rintro e1 w1 ⟨rfl, o1, k1⟩
    go_wp2
    go_ret2
    exact ⟨none, 0, rfl, o1.slc_nil, k1⟩
  · have hpos : 0 < n := by rw [hn]; exact List.length_pos_iff.2 h0
    have hn0 : ((n : Int) == 0) = false := by simp; omega
    have hrest : ∀ p ∈ l, 1 ≤ p.2 ∧ p.2 ≤ 16 := fun p hp => ⟨(hok.rng p hp).2.2.1, (hok.rng p hp).2.2.2⟩
    have hTpos : 0 < sumI (pws l) := sumI_pos (by unfold pws; simpa using h0) (pws_pos hok)
    have hTle : sumI (pws l) ≤ 16 * (l.length : Int) := by
      have := sumI_le (pws l) fun x hx => by
        obtain ⟨p, hp, rfl⟩ := List.mem_map.1 hx
        exact (hrest p hp).2
      unfold pws at this; rw [List.length_map] at this; exact this
    have hdrop : ∀ i, 0 ≤ sumI (pws (l.drop i)) := fun i => sumI_nonneg _ fun x hx => by
      obtain ⟨p, hp, rfl⟩ := List.mem_map.1 hx
      have := hrest p (List.mem_of_mem_drop hp); omega
    have HTl := Lib.hid (show sumI (pws l) ≤ 512 by omega)
    have HTp := Lib.hid hTpos
    have HN := Lib.hid hn
    have HDr := Lib.hid hdrop
    have HRest := Lib.hid hrest
    have H0 := Lib.hid h0
    have hmk := makeI_run n (by omega)
    clear hn hTpos hTle hdrop hrest hl h0
    go_enter Tryz.func81, Tryz.ntmps81
    go_wp2_with fail
    refine hv.mono ?_
    rintro e1 w1 ⟨rfl, o1, k1⟩
    clear hv
    go_wp2
    go_loopw [6, 24] (fun v6 v24 wr => SpRel1 l Sp R w v6 v24 wr) (fun _ v _ => n - (ivOf v).toNat)
    case atStart => exact ⟨0, 0, rfl, rfl, by omega, by omega, by rw [List.drop_zero]; omega, o1, k1⟩
    case round =>
      obtain ⟨i, s, rfl, rfl, hi, hs0, hs, oR, kR⟩ := hrel
      by_cases hlt : i < n
      · obtain ⟨t, ht⟩ : ∃ t, l[i]? = some t := ⟨_, List.getElem?_eq_getElem (by have := HN.out; omega)⟩
        obtain ⟨g, so, rfl, d0, d1⟩ := hS _ _ oR i _ ht
        have h2 := HRest.out t (List.mem_of_getElem? ht)
        have hs2 := hs
        rw [pws_drop ht] at hs2
        have hdn := HDr.out (i + 1)
        have hTl := HTl.out
        obtain ⟨x, y⟩ := t
        dsimp only at d0 d1 h2 hs2
        have hw : IntKind.i64.wrap (s + y) = s + y := by rw [IntKind.wrap_i64]; omega
        have hlen := HN.out
        have HS := Lib.hid hs2
        have HL := Lib.hid hlen
        clear hs2 hdn hTl hs ht hlen
        go_wp2
        go_roundw
        case rel => exact ⟨i + 1, s + y, by go_num, rfl, by have := HL.out; omega, by omega, by have := HS.out; omega, (oR.alloc _).drop, ⟨kR.os, kR.tape, kR.output⟩⟩
        case measure => simp [ivOf]; omega
      · have hil : i = l.length := by have := HN.out; omega
        have hsT : s = sumI (pws l) := by
          rw [hil, List.drop_length] at hs
          have : sumI (pws ([] : List (Int × Int))) = 0 := rfl
          omega
        have HT1 := Lib.hid hsT
        have hT1 : 1 ≤ s ∧ s ≤ 512 := by have := HTl.out; have := HTp.out; omega
        clear hsT hs hil hs0
        have hMD : ∀ (x : Int) (W : World) (R' : List SP), 1 ≤ x → x ≤ 16 → Own W R' → Calls Tryz.prog 111 #[.int .i64 a, .int .i64 x, .int .i64 s, .int .i64 (if a < 0 then 1 else 0)] W (Ret (.tuple #[.int .i64 ((a * x).tdiv s), .int .i64 0]) R' W) :=
          fun x W R' h1 h2 o' => mulDivI_spec a x s ha h1 h2 (by omega) (by omega) o'
        have HMD := Lib.hid hMD
        clear hMD
        by_cases hneg : a < 0
        · have f1 : decide (a < 0) = true := decide_eq_true hneg
          have hrd : (if a < 0 then (1 : Int) else 0) = 1 := if_pos hneg
          rw [hrd] at HMD
          have HA := Lib.hid ha
          have HNEG := Lib.hid hneg
          clear hneg ha hrd hT1
          go_wp2
          have oZ := oR.alloc (.cells (List.replicate n (Value.int .i64 0)).toArray 2)
          generalize hg : wr.heap.size = g at *
          have HG := Lib.hid hg
          clear hg
          go_loopw [11, 41] (fun v11 v41 wr' => SpRel2 a s l g Sp R w v11 v41 wr') (fun _ v _ => n - (ivOf v).toNat)
          case atStart => exact ⟨0, 0, rfl, by rw [Int.sub_zero], by omega, rfl, by decide, by rw [List.take_zero, Nat.sub_zero, ← HN.out]; exact oZ, ⟨kR.os, kR.tape, kR.output⟩⟩
          case round =>
            obtain ⟨j, sm, rfl, rfl, hj, hsm, hsb, oQ, kQ⟩ := hrel
            by_cases hlt2 : j < n
            · obtain ⟨t, ht⟩ : ∃ t, l[j]? = some t := ⟨_, List.getElem?_eq_getElem (by have := HN.out; omega)⟩
              obtain ⟨g2, so, rfl, d0, d1⟩ := hS _ _ (oQ.up 1) j _ ht
              have h2 := HRest.out t (List.mem_of_getElem? ht)
              have hget := truncs_get a s ht
              obtain ⟨x, y⟩ := t
              dsimp only at d0 d1 h2 hget
              obtain ⟨q, hq⟩ : ∃ q, (a * y).tdiv s = q := ⟨_, rfl⟩
              have hcall : ∀ (W : World) (R' : List SP), Own W R' → Calls Tryz.prog 111 #[.int .i64 a, .int .i64 y, .int .i64 s, .int .i64 1] W (Ret (.tuple #[.int .i64 q, .int .i64 0]) R' W) := fun W R' o' => by
                have := HMD.out y W R' h2.1 h2.2 o'
                rw [hq] at this; exact this
              have hy : y ≤ s := by rw [HT1.out]; exact mem_le_sumI (fun z hz => by
                obtain ⟨p, hp, rfl⟩ := List.mem_map.1 hz
                have := HRest.out p hp; omega) (List.mem_map.2 ⟨(x, y), List.mem_of_getElem? ht, rfl⟩)
              have hqa : ab q ≤ 36028797018963968 := by
                rw [← hq]
                exact Int.le_trans (trunc_abs a y s (by omega) hy (by omega)) HA.out
              have hla : (truncs a s (pws l)).length = l.length := by rw [truncs_len]; unfold pws; rw [List.length_map]
              have hA2 := HA.out
              have hj2 : (j : Int) ≤ 31 := by omega
              have hw : IntKind.i64.wrap (a - sm - q) = a - (sm + q) := by unfold ab at hsb hqa hA2; rw [IntKind.wrap_i64]; omega
              have hsb2 : ab (sm + q) ≤ ((j + 1 : Nat) : Int) * 36028797018963968 := by unfold ab at hsb hqa ⊢; omega
              rw [hq] at hget
              have HC := Lib.hid hcall
              have HB2 := Lib.hid hsb2
              have HNL := HN.out
              have c0z := zeros_at (j := j) hla (by omega)
              have hzs := zeros_set (n := l.length) hget (by omega)
              have hsm2 : sm + q = sumI ((truncs a s (pws l)).take (j + 1)) := by rw [take_next hget, sumI_snoc, ← hsm]
              have HS2 := Lib.hid hsm2
              have HZS := Lib.hid hzs
              have HZ := Lib.hid c0z
              have HNL2 := Lib.hid HNL
              clear hcall hq hy hqa hla hA2 hsb2 hsb hget c0z hzs hsm2 hsm HNL ht
              have oA := oQ.alloc (.cells #[.int .i64 x, .int .i64 y] 145)
              go_wp2_with fail
              refine (HC.out _ _ oA).mono ?_
              rintro e3 w3 ⟨rfl, o3, k3⟩
              have c1 := (o3.up 1).cell j HZ.out
              have hf := (o3.up 1).frozen
              have hlt3 := (o3.up 1).celLt
              have oS := (o3.up 1).setCell j (.int .i64 q)
              rw [HZS.out] at oS
              go_wp2
              go_roundw
              case rel => exact ⟨j + 1, sm + q, by go_num, rfl, by have := HNL2.out; omega, HS2.out, HB2.out, (oS.up 1).drop, ⟨k3.os.trans kQ.os, k3.tape.trans kQ.tape, k3.output.trans kQ.output⟩⟩
              case measure => simp [ivOf]; omega
            · have hjl : j = l.length := by have := HN.out; omega
              subst hjl
              have hla : (truncs a s (pws l)).length = l.length := by rw [truncs_len]; unfold pws; rw [List.length_map]
              rw [zeros_end hla] at oQ
              rw [List.take_of_length_le (by omega)] at hsm
              obtain ⟨q0, ds, hds⟩ : ∃ q0 ds, truncs a s (pws l) = q0 :: ds := by
                cases hT : truncs a s (pws l) with
                | nil => rw [hT] at hla; have := H0.out; simp at hla; exact absurd (List.eq_nil_of_length_eq_zero hla.symm) this
                | cons q0 ds => exact ⟨_, _, rfl⟩
              rw [hds] at oQ hsm
              have c1 := oQ.cell 0
              have hf := oQ.frozen
              have hlt3 := oQ.celLt
              obtain ⟨p0, hp0⟩ : ∃ p, l[0]? = some p := ⟨_, List.getElem?_eq_getElem (by have := HN.out; omega)⟩
              have hq0 : ab q0 ≤ 36028797018963968 := by
                have h1 := truncs_get a s hp0
                rw [hds] at h1
                have h2 := HRest.out p0 (List.mem_of_getElem? hp0)
                have e : q0 = (a * p0.2).tdiv s := by simpa using h1
                rw [e]
                refine Int.le_trans (trunc_abs a p0.2 s (by omega) ?_ (by have := HT1.out; have := HTp.out; omega)) HA.out
                rw [HT1.out]; exact mem_le_sumI (fun z hz => by
                obtain ⟨p, hp, rfl⟩ := List.mem_map.1 hz
                have := HRest.out p hp; omega) (List.mem_map.2 ⟨p0, List.mem_of_getElem? hp0, rfl⟩)
              have hA2 := HA.out
              have hw : IntKind.i64.wrap (q0 + (a - sm)) = q0 + (a - sm) := by have := HN.out; unfold ab at hsb hq0 hA2; rw [IntKind.wrap_i64]; omega
              have oS := oQ.setCell 0 (.int .i64 (q0 + (a - sm)))
              have HDS := Lib.hid hds
              have HSM := Lib.hid hsm
              have HNL2 := Lib.hid HN.out
              clear hds hsm hsb hq0 hA2 hp0 hla
              go_wp2
              go_ret2
              have hne := H0.out
              have hds := HDS.out
              rw [HT1.out] at hds
              have hsm := HSM.out
              rw [hsm] at oS
              have := sh_end hds (by have := HNL2.out; omega) oS (Calm.trans kQ ⟨rfl, rfl, rfl⟩) hne
              rw [← HNL2.out, ← hsm] at this
              exact this
        · have f1 : decide (a < 0) = false := decide_eq_false hneg
          have hrd : (if a < 0 then (1 : Int) else 0) = 0 := if_neg hneg
          rw [hrd] at HMD
          have HA := Lib.hid ha
          have HNEG := Lib.hid hneg
          clear hneg ha hrd hT1
          go_wp2
          have oZ := oR.alloc (.cells (List.replicate n (Value.int .i64 0)).toArray 2)
          generalize hg : wr.heap.size = g at *
          have HG := Lib.hid hg
          clear hg
          go_loopw [11, 41] (fun v11 v41 wr' => SpRel2 a s l g Sp R w v11 v41 wr') (fun _ v _ => n - (ivOf v).toNat)
          case atStart => exact ⟨0, 0, rfl, by rw [Int.sub_zero], by omega, rfl, by decide, by rw [List.take_zero, Nat.sub_zero, ← HN.out]; exact oZ, ⟨kR.os, kR.tape, kR.output⟩⟩
          case round =>
            obtain ⟨j, sm, rfl, rfl, hj, hsm, hsb, oQ, kQ⟩ := hrel
            by_cases hlt2 : j < n
            · obtain ⟨t, ht⟩ : ∃ t, l[j]? = some t := ⟨_, List.getElem?_eq_getElem (by have := HN.out; omega)⟩
              obtain ⟨g2, so, rfl, d0, d1⟩ := hS _ _ (oQ.up 1) j _ ht
              have h2 := HRest.out t (List.mem_of_getElem? ht)
              have hget := truncs_get a s ht
              obtain ⟨x, y⟩ := t
              dsimp only at d0 d1 h2 hget
              obtain ⟨q, hq⟩ : ∃ q, (a * y).tdiv s = q := ⟨_, rfl⟩
              have hcall : ∀ (W : World) (R' : List SP), Own W R' → Calls Tryz.prog 111 #[.int .i64 a, .int .i64 y, .int .i64 s, .int .i64 0] W (Ret (.tuple #[.int .i64 q, .int .i64 0]) R' W) := fun W R' o' => by
                have := HMD.out y W R' h2.1 h2.2 o'
                rw [hq] at this; exact this
              have hy : y ≤ s := by rw [HT1.out]; exact mem_le_sumI (fun z hz => by
                obtain ⟨p, hp, rfl⟩ := List.mem_map.1 hz
                have := HRest.out p hp; omega) (List.mem_map.2 ⟨(x, y), List.mem_of_getElem? ht, rfl⟩)
              have hqa : ab q ≤ 36028797018963968 := by
                rw [← hq]
                exact Int.le_trans (trunc_abs a y s (by omega) hy (by omega)) HA.out
              have hla : (truncs a s (pws l)).length = l.length := by rw [truncs_len]; unfold pws; rw [List.length_map]
              have hA2 := HA.out
              have hj2 : (j : Int) ≤ 31 := by omega
              have hw : IntKind.i64.wrap (a - sm - q) = a - (sm + q) := by unfold ab at hsb hqa hA2; rw [IntKind.wrap_i64]; omega
              have hsb2 : ab (sm + q) ≤ ((j + 1 : Nat) : Int) * 36028797018963968 := by unfold ab at hsb hqa ⊢; omega
              rw [hq] at hget
              have HC := Lib.hid hcall
              have HB2 := Lib.hid hsb2
              have HNL := HN.out
              have c0z := zeros_at (j := j) hla (by omega)
              have hzs := zeros_set (n := l.length) hget (by omega)
              have hsm2 : sm + q = sumI ((truncs a s (pws l)).take (j + 1)) := by rw [take_next hget, sumI_snoc, ← hsm]
              have HS2 := Lib.hid hsm2
              have HZS := Lib.hid hzs
              have HZ := Lib.hid c0z
              have HNL2 := Lib.hid HNL
              clear hcall hq hy hqa hla hA2 hsb2 hsb hget c0z hzs hsm2 hsm HNL ht
              have oA := oQ.alloc (.cells #[.int .i64 x, .int .i64 y] 145)
              go_wp2_with fail
              refine (HC.out _ _ oA).mono ?_
              rintro e3 w3 ⟨rfl, o3, k3⟩
              have c1 := (o3.up 1).cell j HZ.out
              have hf := (o3.up 1).frozen
              have hlt3 := (o3.up 1).celLt
              have oS := (o3.up 1).setCell j (.int .i64 q)
              rw [HZS.out] at oS
              go_wp2
              go_roundw
              case rel => exact ⟨j + 1, sm + q, by go_num, rfl, by have := HNL2.out; omega, HS2.out, HB2.out, (oS.up 1).drop, ⟨k3.os.trans kQ.os, k3.tape.trans kQ.tape, k3.output.trans kQ.output⟩⟩
              case measure => simp [ivOf]; omega
            · have hjl : j = l.length := by have := HN.out; omega
              subst hjl
              have hla : (truncs a s (pws l)).length = l.length := by rw [truncs_len]; unfold pws; rw [List.length_map]
              rw [zeros_end hla] at oQ
              rw [List.take_of_length_le (by omega)] at hsm
              obtain ⟨q0, ds, hds⟩ : ∃ q0 ds, truncs a s (pws l) = q0 :: ds := by
                cases hT : truncs a s (pws l) with
                | nil => rw [hT] at hla; have := H0.out; simp at hla; exact absurd (List.eq_nil_of_length_eq_zero hla.symm) this
                | cons q0 ds => exact ⟨_, _, rfl⟩
              rw [hds] at oQ hsm
              have c1 := oQ.cell 0
              have hf := oQ.frozen
              have hlt3 := oQ.celLt
              obtain ⟨p0, hp0⟩ : ∃ p, l[0]? = some p := ⟨_, List.getElem?_eq_getElem (by have := HN.out; omega)⟩
              have hq0 : ab q0 ≤ 36028797018963968 := by
                have h1 := truncs_get a s hp0
                rw [hds] at h1
                have h2 := HRest.out p0 (List.mem_of_getElem? hp0)
                have e : q0 = (a * p0.2).tdiv s := by simpa using h1
                rw [e]
                refine Int.le_trans (trunc_abs a p0.2 s (by omega) ?_ (by have := HT1.out; have := HTp.out; omega)) HA.out
                rw [HT1.out]; exact mem_le_sumI (fun z hz => by
                obtain ⟨p, hp, rfl⟩ := List.mem_map.1 hz
                have := HRest.out p hp; omega) (List.mem_map.2 ⟨p0, List.mem_of_getElem? hp0, rfl⟩)
              have hA2 := HA.out
              have hw : IntKind.i64.wrap (q0 + (a - sm)) = q0 + (a - sm) := by have := HN.out; unfold ab at hsb hq0 hA2; rw [IntKind.wrap_i64]; omega
              have oS := oQ.setCell 0 (.int .i64 (q0 + (a - sm)))
              have HDS := Lib.hid hds
              have HSM := Lib.hid hsm
              have HNL2 := Lib.hid HN.out
              clear hds hsm hsb hq0 hA2 hp0 hla
              go_wp2
              go_ret2
              have hne := H0.out
              have hds := HDS.out
              rw [HT1.out] at hds
              have hsm := HSM.out
              rw [hsm] at oS
              have := sh_end hds (by have := HNL2.out; omega) oS (Calm.trans kQ ⟨rfl, rfl, rfl⟩) hne
              rw [← HNL2.out, ← hsm] at this
              exact this
end
end Go.Proofs.YtjpahfkchhnpoaaGreat

/- Assignments to entries of a map that are there: mapEntry and entryStore. -/
namespace Go.Proofs.YtjpahfkchhnpoaaGreat
open Go.RowKit
open SP
section
variable {α : Type} {f : α → Value} {w w' : World} {l : List SP} {b : Nat} {m : List (Int × α)} {P : Program} {t kt et : TypeId}

/-- The stamp of key k's entry. -/
def BornAt (m : List (Int × α)) (w : World) (b : Nat) (k : Int) (born : Nat) : Prop :=
  ∃ es clock i e, w.heap[b]? = some (.map es clock) ∧ midx m k = some i ∧ es[i]? = some e ∧ e.born = born

theorem run_mapEntry_mpI (ht : P.underlying t = some (.map kt et)) (hk : P.underlying kt = some (.int .i64)) (o : Own w (mpI f b m :: l)) (k : Int) {u : α} (hu : mget m k = some u) :
    ∃ (w' : World) (born : Nat), (Instr.mapEntry t (.map (some b)) (.int .i64 k)).run P w = .ok (.tuple #[f u, .int .i64 (born : Int)]) w' ∧ BornAt m w' b k born ∧ Own w' (mpI f b m :: l) ∧ Calm w w' := by
  obtain ⟨es, clock, h1, h2, h3, o⟩ := Own.mpI.1 o
  have hb := o.blk
  have hm := midx_mget m k
  have hf := run_findKey_int (P := P) hk h1 k w
  rw [hu] at hm
  obtain ⟨i, hmi⟩ : ∃ i, midx m k = some i := Option.isSome_iff_exists.1 (by simpa using hm)
  obtain ⟨h4, e0, h5, h6⟩ := mput_lists (f := f) k u es.toList m i h1 hmi
  have h5' : es[i]? = some e0 := by simpa using h5
  simp [hmi, hu] at hf
  have hsame : (es.modify i fun e => { e with key := .int .i64 k }) = es := by
    apply Array.ext'
    rw [Array.toList_modify]
    refine List.ext_getElem? fun j => ?_
    rw [List.getElem?_modify]
    by_cases hj : i = j
    · subst hj
      rw [h5]
      obtain ⟨ek, ev, eb⟩ := e0
      simp only at h6
      subst h6
      simp
    · simp only [if_neg hj]
      cases es.toList[j]? <;> rfl
  refine ⟨{ w with heap := w.heap.setIfInBounds b (.map es clock) }, e0.born, ?_, ⟨es, clock, i, e0, (o.setMap (.map es clock)).blk, hmi, h5', rfl⟩, Own.mpI.2 ⟨es, clock, h1, h2, h3, o.setMap _⟩, ⟨rfl, rfl, rfl⟩⟩
  · simp [Instr.mapEntry, run_underlying ht, getObj, setObj, Sem.run, hb, run_checkKey_int hk, hf, h5', h6, Instr.keyThatStays, Instr.sameBits, hsame, goInt]

theorem run_entryStore_mpI (o : Own w (mpI f b m :: l)) (k : Int) (v : α) {born : Nat} (hB : BornAt m w b k born) :
    ∃ w', (Instr.entryStore t (.map (some b)) (.int .i64 (born : Int)) (f v)).run P w = .ok () w' ∧ Own w' (mpI f b (mput m k v) :: l) ∧ Calm w w' := by
  obtain ⟨es, clock, h1, h2, h3, o⟩ := Own.mpI.1 o
  have hb := o.blk
  obtain ⟨es', clock', i, e, hb', hmi, he, hborn⟩ := hB
  rw [hb] at hb'
  simp only [Option.some.injEq, Obj.map.injEq] at hb'
  obtain ⟨rfl, rfl⟩ := hb'
  obtain ⟨h4, e0, h5, h6⟩ := mput_lists (f := f) k v es.toList m i h1 hmi
  have h5' : es[i]? = some e0 := by simpa using h5
  rw [h5'] at he
  simp only [Option.some.injEq] at he
  subst he
  have hnd : (es.toList.map (·.born)).Nodup := by
    rw [List.Nodup, List.pairwise_map]
    exact h2.imp fun h => by omega
  have hfi : es.findIdx? (fun x => ((x.born : Nat) : Int) == ((e0.born : Nat) : Int)) = some i := by
    rw [Go.WideElems.findIdx_arr]; exact Go.WideElems.findIdx_born hnd h5
  have hsame : (es.modify i fun e => { e with val := f v }) = es.modify i fun e => { e with key := .int .i64 k, val := f v } := by
    apply Array.ext'
    rw [Array.toList_modify, Array.toList_modify]
    refine List.ext_getElem? fun j => ?_
    rw [List.getElem?_modify, List.getElem?_modify]
    by_cases hj : i = j
    · subst hj
      rw [h5]
      obtain ⟨ek, ev, eb⟩ := e0
      simp only at h6
      subst h6
      simp
    · simp only [if_neg hj]
  refine ⟨_, ?_, Own.mpI.2 ⟨es.modify i fun e => { e with key := .int .i64 k, val := f v }, clock, ?_, ?_, ?_, o.setMap _⟩, ⟨rfl, rfl, rfl⟩⟩
  · rw [← hborn]
    simp [Instr.entryStore, getObj, setObj, Sem.run, hb, asInt, asIntOf, hfi, hsame]
  · rw [Array.toList_modify]; exact h4
  · rw [Array.toList_modify]; exact pairwise_modify (fun e => { e with key := .int .i64 k, val := f v }) (fun _ => rfl) i h2
  · rw [Array.toList_modify]; exact mem_modify_born (fun e => { e with key := .int .i64 k, val := f v }) (fun _ => rfl) i h3

theorem wpList_mapEntry_mpI {ops : Array Oper} {rest : List Oper} {op : Oper} {A : Act} {Q : Exit → Act → World → Prop} (hgd : op.guard = none) (x y : Operand) (hop : op.op = Op.mapEntry t x y)
    (ht : P.underlying t = some (.map kt et)) (hk : P.underlying kt = some (.int .i64)) (o : Own w (mpI f b m :: l)) (k : Int) {u : α} (hu : mget m k = some u)
    (hx : A.eval x = .map (some b)) (hy : A.eval y = .int .i64 k)
    (h : ∀ w' (born : Nat), BornAt m w' b k born → Own w' (mpI f b m :: l) → Calm w w' → wpList P ops Q rest (A.put op.dst (.tuple #[f u, .int .i64 (born : Int)])) w') : wpList P ops Q (op :: rest) A w := by
  refine wpList_plain hgd fun K hK => ?_
  obtain ⟨w', born, hr, h1, h2, h3⟩ := run_mapEntry_mpI ht hk o k hu
  unfold Oper.wp
  simp [execOp, hop, hx, hy, hr]
  exact hK _ _ (h w' born h1 h2 h3)
theorem wpList_entryStore_mpI {ops : Array Oper} {rest : List Oper} {op : Oper} {A : Act} {Q : Exit → Act → World → Prop} (hgd : op.guard = none) (x y v : Operand) (hop : op.op = Op.entryStore t x y v)
    (o : Own w (mpI f b m :: l)) (k : Int) (u : α) {born : Nat} (hB : BornAt m w b k born)
    (hx : A.eval x = .map (some b)) (hy : A.eval y = .int .i64 (born : Int)) (hv : A.eval v = f u)
    (h : ∀ w', Own w' (mpI f b (mput m k u) :: l) → Calm w w' → wpList P ops Q rest (A.put op.dst undef) w') : wpList P ops Q (op :: rest) A w := by
  refine wpList_plain hgd fun K hK => ?_
  obtain ⟨w', hr, h2, h3⟩ := run_entryStore_mpI (P := P) (t := t) o k u hB
  unfold Oper.wp
  simp [execOp, hop, hx, hy, hv, hr, Result.andThen]
  exact hK _ _ (h w' h2 h3)
end
end Go.Proofs.YtjpahfkchhnpoaaGreat

/- Ranging over a map with int keys while its own entries are stored anew. -/
namespace Go.Proofs.YtjpahfkchhnpoaaGreat
open Go.RowKit
open SP

section
variable {α : Type} {f : α → Value} {w w' : World} {R : List SP} {tb ib : Nat} {m : List (Int × α)} {S : Int → Bool} {cur : Option Int}

/-- Block tb is a map that holds m; block ib ranges over it: the keys of S have come, the last of them was 'cur'. -/
def SP.rng (f : α → Value) (tb ib : Nat) (m : List (Int × α)) (S : Int → Bool) (cur : Option Int) : SP := ex fun (p : Array MapEntry × Nat × Array Nat) =>
  st [pu (p.1.toList.map (fun e => (e.key, e.val)) = m.map (fun x => (Value.int .i64 x.1, f x.2)) ∧ p.1.toList.Pairwise (fun x y => x.born < y.born) ∧ (∀ e ∈ p.1.toList, e.born < p.2.1) ∧
    (∀ (i : Nat) (e : MapEntry) (x : Int × α), p.1.toList[i]? = some e → m[i]? = some x → (p.2.2.contains e.born = S x.1)) ∧
    (∀ k, cur = some k → ∃ (i : Nat) (e : MapEntry) (x : Int × α), p.1.toList[i]? = some e ∧ m[i]? = some x ∧ x.1 = k ∧ p.2.2.back? = some e.born)),
    blk tb (.map p.1 p.2.1), blk ib (.mapIter (some tb) p.2.1 p.2.2 p.2.1)]

theorem Own.rng : Own w (SP.rng f tb ib m S cur :: R) ↔ ∃ (es : Array MapEntry) (clock : Nat) (seen : Array Nat),
    es.toList.map (fun e => (e.key, e.val)) = m.map (fun x => (Value.int .i64 x.1, f x.2)) ∧ es.toList.Pairwise (fun x y => x.born < y.born) ∧ (∀ e ∈ es.toList, e.born < clock) ∧
    (∀ (i : Nat) (e : MapEntry) (x : Int × α), es.toList[i]? = some e → m[i]? = some x → (seen.contains e.born = S x.1)) ∧
    (∀ k, cur = some k → ∃ (i : Nat) (e : MapEntry) (x : Int × α), es.toList[i]? = some e ∧ m[i]? = some x ∧ x.1 = k ∧ seen.back? = some e.born) ∧
    Own w (SP.blk tb (.map es clock) :: SP.blk ib (.mapIter (some tb) clock seen clock) :: R) := by
  constructor
  · intro o
    obtain ⟨⟨es, clock, seen⟩, o⟩ := Own.ex.1 o
    obtain ⟨⟨h1, h2, h3, h4, h5⟩, o⟩ := Own.pu.1 (Own.st.1 o)
    exact ⟨es, clock, seen, h1, h2, h3, h4, h5, o⟩
  · rintro ⟨es, clock, seen, h1, h2, h3, h4, h5, o⟩
    exact Own.ex.2 ⟨(es, clock, seen), Own.st.2 (Own.pu.2 ⟨⟨h1, h2, h3, h4, h5⟩, o⟩)⟩

variable {P : Program} {t kt et : TypeId}

theorem run_range_mpI (ht : P.underlying t = some (.map kt et)) (o : Own w (SP.mpI f tb m :: R)) :
    ∃ w', (Instr.range t (.map (some tb))).run P w = .ok (.pointer (some ⟨w.heap.size, 0, none⟩)) w' ∧ Own w' (SP.rng f tb w.heap.size m (fun _ => false) none :: R) ∧ Calm w w' := by
  obtain ⟨es, clock, h1, h2, h3, o⟩ := Own.mpI.1 o
  have hb := o.blk
  refine ⟨w.alloc (.mapIter (some tb) clock #[] clock), ?_, Own.rng.2 ⟨es, clock, #[], h1, h2, h3, fun _ _ _ _ _ => by simp, (fun k h => by cases h), (o.alloc _).swap⟩, ⟨rfl, rfl, rfl⟩⟩
  simp [Instr.range, run_underlying ht, getObj, newObj, Sem.run, hb]

/-- The range is over. -/
theorem Own.rng_done (o : Own w (SP.rng f tb ib m S cur :: R)) : Own w (SP.mpI f tb m :: R) := by
  obtain ⟨es, clock, seen, h1, h2, h3, _, _, o⟩ := Own.rng.1 o
  exact Own.mpI.2 ⟨es, clock, h1, h2, h3, o.swap.drop⟩

theorem lists_get {es : List MapEntry} {m : List (Int × α)} (h : es.map (fun e => (e.key, e.val)) = m.map (fun x => (Value.int .i64 x.1, f x.2))) {i : Nat} {e : MapEntry} (he : es[i]? = some e) :
    ∃ x, m[i]? = some x ∧ e.key = .int .i64 x.1 ∧ e.val = f x.2 := by
  have h1 : (es.map (fun e => (e.key, e.val)))[i]? = some (e.key, e.val) := by rw [List.getElem?_map, he]; rfl
  rw [h, List.getElem?_map, Option.map_eq_some_iff] at h1
  obtain ⟨x, hx, hxe⟩ := h1
  simp only [Prod.mk.injEq] at hxe
  exact ⟨x, hx, hxe.1.symm, hxe.2.symm⟩

theorem lists_get' {es : List MapEntry} {m : List (Int × α)} (h : es.map (fun e => (e.key, e.val)) = m.map (fun x => (Value.int .i64 x.1, f x.2))) {i : Nat} {x : Int × α} (hx : m[i]? = some x) :
    ∃ e, es[i]? = some e ∧ e.key = .int .i64 x.1 ∧ e.val = f x.2 := by
  have h1 : (m.map (fun x => (Value.int .i64 x.1, f x.2)))[i]? = some (.int .i64 x.1, f x.2) := by rw [List.getElem?_map, hx]; rfl
  rw [← h, List.getElem?_map, Option.map_eq_some_iff] at h1
  obtain ⟨e, he, hxe⟩ := h1
  simp only [Prod.mk.injEq] at hxe
  exact ⟨e, he, hxe.1, hxe.2⟩

theorem born_inj {es : List MapEntry} (h : es.Pairwise (fun x y => x.born < y.born)) {i j : Nat} {x y : MapEntry} (hi : es[i]? = some x) (hj : es[j]? = some y) (hb : x.born = y.born) : i = j := by
  rw [List.pairwise_iff_getElem] at h
  obtain ⟨hi1, hi2⟩ := List.getElem?_eq_some_iff.1 hi
  obtain ⟨hj1, hj2⟩ := List.getElem?_eq_some_iff.1 hj
  rcases Nat.lt_trichotomy i j with hlt | rfl | hlt
  · have := h i j hi1 hj1 hlt; rw [hi2, hj2] at this; omega
  · rfl
  · have := h j i hj1 hi1 hlt; rw [hi2, hj2] at this; omega

/-- The next entry: none is left, or some entry that has not come. -/
theorem run_next_rng (ty : TypeId) (hu : Uniq m) (o : Own w (SP.rng f tb ib m S cur :: R)) :
    ((∀ x ∈ m, S x.1 = true) ∧ (Instr.next (.pointer (some ⟨ib, 0, none⟩)) false ty).run P w = .ok (.tuple #[.bool false]) w) ∨
    ∃ (x : Int × α) (w' : World), x ∈ m ∧ S x.1 = false ∧ (Instr.next (.pointer (some ⟨ib, 0, none⟩)) false ty).run P w = .ok (.tuple #[.bool true, .int .i64 x.1, f x.2]) w' ∧
      Own w' (SP.rng f tb ib m (fun k => S k || k == x.1) (some x.1) :: R) ∧ Calm w w' := by
  obtain ⟨es, clock, seen, h1, h2, h3, h4, h5, o⟩ := Own.rng.1 o
  have hb := o.blk
  have hi := o.swap.blk
  have hmem : ∀ (i : Nat) (e : MapEntry), es.toList[i]? = some e → e ∈ es.toList := fun i e h => List.mem_of_getElem? h
  rcases run_next_at (P := P) w ty ib tb clock clock seen es clock hi hb h3 (Nat.le_refl _) with ⟨h6, h7⟩ | ⟨e, he, w1, h6, h7⟩
  · left
    refine ⟨fun x hx => ?_, h7⟩
    obtain ⟨i, hix⟩ := List.getElem?_of_mem hx
    obtain ⟨e, he, _⟩ := lists_get' h1 hix
    rw [← h4 i e x he hix]
    cases hc : seen.contains e.born with
    | true => rfl
    | false =>
      have hin : e ∈ (leftOf es seen) := by
        unfold leftOf
        rw [Array.mem_filter]
        exact ⟨by simpa using hmem i e he, by rw [hc]; rfl⟩
      have := Array.size_pos_of_mem hin
      omega
  · right
    obtain ⟨he1, he2⟩ := mem_left he
    obtain ⟨i, hie⟩ := List.getElem?_of_mem he1
    obtain ⟨x, hx, hk, hv⟩ := lists_get h1 hie
    refine ⟨x, _, List.mem_of_getElem? hx, by rw [← h4 i e x hie hx]; exact he2, by rw [hk, hv] at h7; exact h7, ?_, ?_⟩
    · have o1 : Own w1 (SP.blk tb (.map es clock) :: SP.blk ib (.mapIter (some tb) clock seen clock) :: R) := by
        rcases h6 with rfl | rfl
        · exact o
        · exact o.drew
      refine Own.rng.2 ⟨es, clock, seen.push e.born, h1, h2, h3, ?_, ?_, ?_⟩
      · intro i' e' x' he' hx'
        rw [contains_push, h4 i' e' x' he' hx']
        congr 1
        have hiff : e'.born = e.born ↔ x'.1 = x.1 := by
          constructor
          · intro hb'
            have := born_inj h2 he' hie hb'
            subst this
            rw [hx] at hx'; cases hx'; rfl
          · intro hxx
            have h8 : (m.map (·.1))[i']? = some x.1 := by rw [List.getElem?_map, hx']; simp [hxx]
            have h9 : (m.map (·.1))[i]? = some x.1 := by rw [List.getElem?_map, hx]; rfl
            have := nodup_get hu h8 h9
            subst this
            rw [hie] at he'; cases he'; rfl
        rw [Bool.eq_iff_iff]; simpa using hiff
      · intro k hk'
        cases hk'
        exact ⟨i, e, x, hie, hx, rfl, by simp⟩
      · have o2 := o1.swap
        exact (Own.setMap o2 _).swap
    · rcases h6 with rfl | rfl <;> exact ⟨rfl, rfl, rfl⟩

/-- The round's key and value, read again. -/
theorem run_entry_rng {k : Int} (hu : Uniq m) (o : Own w (SP.rng f tb ib m S (some k) :: R)) {v : α} (hm : mget m k = some v) :
    (Instr.entry (.pointer (some ⟨ib, 0, none⟩))).run P w = .ok (.tuple #[.int .i64 k, f v]) w := by
  obtain ⟨es, clock, seen, h1, h2, h3, h4, h5, o⟩ := Own.rng.1 o
  obtain ⟨i, e, x, he, hx, rfl, hback⟩ := h5 k rfl
  obtain ⟨s', hs⟩ : ∃ s' : Array Nat, seen = s'.push e.born := Array.back?_eq_some_iff.1 hback
  subst hs
  obtain ⟨x', hx', hk, hv⟩ := lists_get h1 he
  rw [hx] at hx'; cases hx'
  have hn : (es.toList.map (·.born)).Nodup := by rw [List.Nodup, List.pairwise_map]; exact h2.imp (fun h => Nat.ne_of_lt h)
  have hr := run_entry_at (P := P) w ib tb clock s' es clock e o.swap.blk o.blk (List.mem_of_getElem? he) hn
  rw [hk, hv] at hr
  have hvx : mget m x.1 = some x.2 := mget_at hu hx
  rw [hvx] at hm
  cases hm
  exact hr

/-- An entry of the ranged map is stored anew. -/
theorem run_update_rng (ht : P.underlying t = some (.map kt et)) (hk : P.underlying kt = some (.int .i64)) (_ : Uniq m) (o : Own w (SP.rng f tb ib m S cur :: R)) (k : Int) (v : α) (hin : (mget m k).isSome = true) :
    ∃ w', (Instr.mapUpdate t (.map (some tb)) (.int .i64 k) (f v)).run P w = .ok () w' ∧ Own w' (SP.rng f tb ib (mput m k v) S cur :: R) ∧ Calm w w' := by
  obtain ⟨es, clock, seen, h1, h2, h3, h4, h5, o⟩ := Own.rng.1 o
  have hb := o.blk
  have hm := midx_mget m k
  have hf := run_findKey_int (P := P) hk h1 k w
  obtain ⟨x, hmg⟩ := Option.isSome_iff_exists.1 hin
  obtain ⟨i, hmi⟩ : ∃ i, midx m k = some i := by rw [hin] at hm; exact Option.isSome_iff_exists.1 hm
  obtain ⟨h6, e0, h7, h8⟩ := mput_lists (f := f) k v es.toList m i h1 hmi
  have h7' : es[i]? = some e0 := by simpa using h7
  simp [hmi, hmg] at hf
  have hborn : ∀ (j : Nat) (e : MapEntry), (es.toList.modify i fun e => { e with key := .int .i64 k, val := f v })[j]? = some e → ∃ e', es.toList[j]? = some e' ∧ e'.born = e.born := by
    intro j e he
    rw [List.getElem?_modify] at he
    cases hx : es.toList[j]? with
    | none => rw [hx] at he; cases he
    | some y =>
      rw [hx] at he
      refine ⟨y, rfl, ?_⟩
      simp at he
      split at he <;> subst he <;> rfl
  have hborn' : ∀ (j : Nat) (e : MapEntry), es.toList[j]? = some e → ∃ e', (es.toList.modify i fun e => { e with key := .int .i64 k, val := f v })[j]? = some e' ∧ e'.born = e.born := by
    intro j e he
    rw [List.getElem?_modify, he]
    simp only [Option.map_eq_map, Option.map_some, Option.some.injEq, exists_eq_left']
    split <;> rfl
  have hkeys : (mput m k v).map (·.1) = m.map (·.1) := by
    rw [mput_keys, if_pos]
    exact Classical.byContradiction fun h => by rw [mget_none.2 h] at hmg; cases hmg
  have hkeyat : ∀ (j : Nat) (y : Int × α), (mput m k v)[j]? = some y → ∃ y', m[j]? = some y' ∧ y'.1 = y.1 := by
    intro j y hy
    have h9 : ((mput m k v).map (·.1))[j]? = some y.1 := by rw [List.getElem?_map, hy]; rfl
    rw [hkeys, List.getElem?_map, Option.map_eq_some_iff] at h9
    exact h9
  have hkeyat' : ∀ (j : Nat) (y : Int × α), m[j]? = some y → ∃ y', (mput m k v)[j]? = some y' ∧ y'.1 = y.1 := by
    intro j y hy
    have h9 : (m.map (·.1))[j]? = some y.1 := by rw [List.getElem?_map, hy]; rfl
    rw [← hkeys, List.getElem?_map, Option.map_eq_some_iff] at h9
    exact h9
  refine ⟨_, ?_, Own.rng.2 ⟨es.modify i fun e => { e with key := .int .i64 k, val := f v }, clock, seen, ?_, ?_, ?_, ?_, ?_, o.setMap _⟩, ⟨rfl, rfl, rfl⟩⟩
  · simp [Instr.mapUpdate, run_underlying ht, getObj, setObj, Sem.run, hb, run_checkKey_int hk, hf, h7', h8, Instr.keyThatStays, Instr.sameBits]
  · rw [Array.toList_modify]; exact h6
  · rw [Array.toList_modify]; exact pairwise_modify (fun e => { e with key := .int .i64 k, val := f v }) (fun _ => rfl) i h2
  · rw [Array.toList_modify]; exact mem_modify_born (fun e => { e with key := .int .i64 k, val := f v }) (fun _ => rfl) i h3
  · rw [Array.toList_modify]
    intro j e y he hy
    obtain ⟨e', he', hbe⟩ := hborn j e he
    obtain ⟨y', hy', hye⟩ := hkeyat j y hy
    rw [← hbe, ← hye]; exact h4 j e' y' he' hy'
  · rw [Array.toList_modify]
    intro k' hk'
    obtain ⟨j, e, y, he, hy, hyk, hbk⟩ := h5 k' hk'
    obtain ⟨e', he', hbe⟩ := hborn' j e he
    obtain ⟨y', hy', hye⟩ := hkeyat' j y hy
    exact ⟨j, e', y', he', hy', by rw [hye]; exact hyk, by rw [hbe]; exact hbk⟩

theorem wpList_mapUpdate_rng {ops : Array Oper} {rest : List Oper} {op : Oper} {A : Act} {Q : Exit → Act → World → Prop} (hgd : op.guard = none) (x y v : Operand) (hop : op.op = Op.mapUpdate t x y v)
    (ht : P.underlying t = some (.map kt et)) (hk : P.underlying kt = some (.int .i64)) (hu : Uniq m) (o : Own w (SP.rng f tb ib m S cur :: R)) (k : Int) (u : α) (hin : (mget m k).isSome = true)
    (hx : A.eval x = .map (some tb)) (hy : A.eval y = .int .i64 k) (hv : A.eval v = f u)
    (h : ∀ w', Own w' (SP.rng f tb ib (mput m k u) S cur :: R) → Calm w w' → wpList P ops Q rest (A.put op.dst undef) w') : wpList P ops Q (op :: rest) A w := by
  refine wpList_plain hgd fun K hK => ?_
  obtain ⟨w', hr, h2, h3⟩ := run_update_rng ht hk hu o k u hin
  unfold Oper.wp
  simp [execOp, hop, hx, hy, hv, hr, Result.andThen]
  exact hK _ _ (h w' h2 h3)

/-- How many entries are to come. -/
def rleft (w : World) (tb ib : Nat) : Nat := match w.heap[tb]?, w.heap[ib]? with
  | some (.map es _), some (.mapIter _ _ seen _) => (leftOf es seen).size
  | _, _ => 0
def kleft (m : List (Int × α)) (S : Int → Bool) : Nat := ((m.map (·.1)).filter (fun k => !S k)).length

theorem filter_len (seen : Array Nat) (S : Int → Bool) : ∀ (es : List MapEntry) (m : List (Int × α)), es.length = m.length → (∀ (i : Nat) (e : MapEntry) (x : Int × α), es[i]? = some e → m[i]? = some x → (seen.contains e.born = S x.1)) →
    (es.filter (fun e => !seen.contains e.born)).length = ((m.map (·.1)).filter (fun k => !S k)).length
  | [], [], _, _ => rfl
  | [], _ :: _, h, _ => by simp at h
  | _ :: _, [], h, _ => by simp at h
  | e :: es, x :: m, h, hp => by
    have h0 := hp 0 e x rfl rfl
    have ih := filter_len seen S es m (by simpa using h) (fun i e' x' h1 h2 => hp (i + 1) e' x' (by simpa using h1) (by simpa using h2))
    rw [List.map_cons, List.filter_cons, List.filter_cons]
    rw [h0]
    cases S x.1
    · simp only [Bool.not_false, if_true, List.length_cons]
      rw [ih]
    · simpa using ih

theorem Own.rleft (o : Own w (SP.rng f tb ib m S cur :: R)) : rleft w tb ib = kleft m S := by
  obtain ⟨es, clock, seen, h1, h2, h3, h4, h5, o⟩ := Own.rng.1 o
  have hb := o.blk
  have hi := o.swap.blk
  unfold Go.Proofs.YtjpahfkchhnpoaaGreat.rleft
  rw [hb, hi]
  have hl : es.toList.length = m.length := by have := congrArg List.length h1; simpa using this
  have := filter_len seen S es.toList m hl h4
  unfold kleft
  rw [← this]
  simp only [leftOf]
  rw [← Array.length_toList, Array.toList_filter]

theorem filter_lt {l : List Int} {p q : Int → Bool} (h : ∀ x, q x = true → p x = true) {k : Int} (hk : k ∈ l) (h1 : p k = true) (h2 : q k = false) : (l.filter q).length < (l.filter p).length := by
  induction l with
  | nil => simp at hk
  | cons y l ih =>
    have hle : (l.filter q).length ≤ (l.filter p).length := by
      clear ih hk
      induction l with
      | nil => simp
      | cons z l ih =>
        simp only [List.filter_cons]
        cases hq : q z
        · cases hp : p z <;> simp <;> omega
        · rw [h z hq]; simpa using ih
    simp only [List.filter_cons]
    rcases List.mem_cons.1 hk with rfl | hk
    · rw [h1, h2]; simp; omega
    · have := ih hk
      cases hq : q y
      · cases hp : p y <;> simp <;> omega
      · rw [h y hq]; simpa using this

theorem kleft_lt {x : Int × α} (hx : x ∈ m) (hS : S x.1 = false) : kleft m (fun k => S k || k == x.1) < kleft m S := by
  unfold kleft
  refine filter_lt (k := x.1) ?_ (List.mem_map.2 ⟨x, hx, rfl⟩) (by simp [hS]) (by simp)
  intro y hy
  simp at hy
  simp [hy.1]

theorem kleft_mput {k : Int} {v : α} (hk : k ∈ m.map (·.1)) : kleft (mput m k v) S = kleft m S := by
  unfold kleft
  rw [mput_keys, if_pos hk]
end
end Go.Proofs.YtjpahfkchhnpoaaGreat

/- Parts in another order; the structure Rng: a map ranged over. -/
namespace Go.Proofs.YtjpahfkchhnpoaaGreat
open Go.RowKit
open SP

def mvUp : Nat → List SP → List SP
  | 0, l => l
  | _ + 1, [] => []
  | n + 1, B :: l => match mvUp n l with
    | [] => [B]
    | A :: l' => A :: B :: l'
theorem mvUp_perm : ∀ (n : Nat) (l : List SP), l.Perm (mvUp n l)
  | 0, l => .refl l
  | _ + 1, [] => .refl _
  | n + 1, B :: l => by
    have h := mvUp_perm n l
    unfold mvUp
    cases hm : mvUp n l with
    | nil => rw [hm] at h; exact h.cons B
    | cons A l' => rw [hm] at h; exact (h.cons B).trans (.swap A B l')
theorem Own.mvUp {w : World} {l : List SP} (n : Nat) (o : Own w l) : Own w (mvUp n l) := o.perm (mvUp_perm n l)
/-- The parts numbered ns first, in this order. -/
def reord : List Nat → List SP → List SP
  | [], l => l
  | n :: ns, l => mvUp (ns.length + n - (ns.filter (· < n)).length) (reord ns l)
theorem Own.reord {w : World} {l : List SP} (o : Own w l) : ∀ ns : List Nat, Own w (reord ns l)
  | [] => o
  | _ :: ns => (o.reord ns).mvUp _
theorem Own.dropN {w : World} : ∀ (d : Nat) {l : List SP}, Own w l → Own w (l.drop d)
  | 0, _, o => o
  | _ + 1, [], o => o
  | d + 1, _ :: _, o => Own.dropN d o.drop
/-- Bring parts to the front and drop the first d of them. -/
theorem Own.re {w : World} {l : List SP} (o : Own w l) (ns : List Nat) (d : Nat := 0) : Own w ((Go.Proofs.YtjpahfkchhnpoaaGreat.reord ns l).drop d) := (o.reord ns).dropN d

section
variable {α : Type} {f : α → Value} {w : World} {l : List SP} {P : Program} {t kt et : TypeId} {b : Nat} {m : List (Int × α)}
theorem run_len_mpI (ty : TypeId) (ht : P.underlying t = some (.map kt et)) (o : Own w (SP.mpI f b m :: l)) :
    (Builtin.len_ #[t] ty #[.map (some b)]).run P w = .ok (.int .i64 (m.length : Int)) w := by
  obtain ⟨es, clock, h1, _, _, o⟩ := Own.mpI.1 o
  have hb := o.blk
  have hl : es.size = m.length := by have := congrArg List.length h1; simpa using this
  simp [Builtin.len_, run_underlying ht, getObj, Sem.run, hb, hl, goInt]
theorem wpList_len_mpI {ops : Array Oper} {rest : List Oper} {op : Oper} {A : Act} {Q : Exit → Act → World → Prop} (hgd : op.guard = none) (x : Operand)
    (hop : op.op = .call { callee := .builtin .len, args := #[x], argTypes := #[t] })
    (ht : P.underlying t = some (.map kt et)) (o : Own w (SP.mpI f b m :: l)) (hx : A.eval x = .map (some b))
    (h : wpList P ops Q rest (A.put op.dst (.int .i64 (m.length : Int))) w) : wpList P ops Q (op :: rest) A w := by
  refine wpList_plain hgd fun K hK => ?_
  unfold Oper.wp
  simp [execOp, hop, resolve, invoke, builtin, hx, run_len_mpI op.type ht o, Result.andThen]
  exact hK _ _ h
theorem run_clear_mpI (ty : TypeId) (ht : P.underlying t = some (.map kt et)) (o : Own w (SP.mpI f b m :: l)) :
    ∃ w', (Builtin.clear_ #[t] ty #[.map (some b)]).run P w = .ok (.tuple #[]) w' ∧ Own w' (SP.mpI f b ([] : List (Int × α)) :: l) ∧ Calm w w' := by
  obtain ⟨es, clock, h1, _, _, o⟩ := Own.mpI.1 o
  have hb := o.blk
  refine ⟨_, ?_, Own.mpI.2 ⟨#[], clock, rfl, by simp, by simp, o.setMap _⟩, ⟨rfl, rfl, rfl⟩⟩
  simp [Builtin.clear_, run_underlying ht, getObj, setObj, Sem.run, hb]
theorem wpList_clear_mpI {ops : Array Oper} {rest : List Oper} {op : Oper} {A : Act} {Q : Exit → Act → World → Prop} (hgd : op.guard = none) (x : Operand)
    (hop : op.op = .call { callee := .builtin .clear, args := #[x], argTypes := #[t] })
    (ht : P.underlying t = some (.map kt et)) (o : Own w (SP.mpI f b m :: l)) (hx : A.eval x = .map (some b))
    (h : ∀ w', Own w' (SP.mpI f b ([] : List (Int × α)) :: l) → Calm w w' → wpList P ops Q rest (A.put op.dst (.tuple #[])) w') : wpList P ops Q (op :: rest) A w := by
  refine wpList_plain hgd fun K hK => ?_
  obtain ⟨w', hr, h2, h3⟩ := run_clear_mpI op.type ht o
  unfold Oper.wp execOp
  simp only [hop, resolve, invoke, builtin, Sem.run_bind, Sem.run_pure, Result.andThen_ok, List.map_toArray, List.map_cons, List.map_nil, hx, hr]
  exact hK _ _ (h w' h2 h3)
end

theorem drop_at {α : Type} {l : List α} {i : Nat} {x : α} (h : l[i]? = some x) : l.drop i = x :: l.drop (i + 1) := by
  obtain ⟨h1, h2⟩ := List.getElem?_eq_some_iff.1 h
  rw [List.drop_eq_getElem_cons h1, h2]

/-! ### Maps that are ranged over while each entry is stored anew -/
section
variable {α : Type} {g : α → α} {S : Int → Bool}
def upd (g : α → α) (S : Int → Bool) (m : List (Int × α)) : List (Int × α) := m.map fun x => (x.1, if S x.1 then g x.2 else x.2)
theorem upd_keys (g : α → α) (S : Int → Bool) (m : List (Int × α)) : (upd g S m).map (·.1) = m.map (·.1) := by unfold upd; rw [List.map_map]; rfl
theorem upd_none (g : α → α) (m : List (Int × α)) : upd g (fun _ => false) m = m := by unfold upd; simp
theorem upd_all {m : List (Int × α)} (h : ∀ x ∈ m, S x.1 = true) : upd g S m = m.map fun x => (x.1, g x.2) := by
  unfold upd
  exact List.map_congr_left fun x hx => by rw [h x hx, if_pos rfl]
theorem upd_put : ∀ {m : List (Int × α)} (_ : Uniq m) {k : Int} {v : α} (_ : mget m k = some v), mput (upd g S m) k (g v) = upd g (fun z => S z || z == k) m
  | [], _, k, v, h => by simp [mget] at h
  | (k0, v0) :: m, hu, k, v, h => by
    unfold Uniq at hu
    rw [List.map_cons, List.nodup_cons] at hu
    unfold mget at h
    unfold upd
    simp only [List.map_cons]
    unfold mput
    by_cases hk : k = k0
    · subst hk
      rw [if_pos rfl] at h ⊢
      simp at h
      subst h
      simp only [BEq.rfl, Bool.or_true, if_true, List.cons.injEq, true_and]
      refine List.map_congr_left fun x hx => ?_
      have hne : x.1 ≠ k := fun e => hu.1 (List.mem_map.2 ⟨x, hx, e⟩)
      have : (x.1 == k) = false := by simpa using hne
      simp only [this, Bool.or_false]
    · rw [if_neg hk] at h ⊢
      have hb : (k0 == k) = false := by simpa using Ne.symm hk
      simp only [hb, Bool.or_false, List.cons.injEq, true_and]
      exact upd_put hu.2 h
theorem mget_upd : ∀ {m : List (Int × α)} (k : Int), mget (upd g S m) k = (mget m k).map (fun v => if S k then g v else v)
  | [], k => rfl
  | (k0, v0) :: m, k => by
    unfold upd
    simp only [List.map_cons]
    unfold mget
    by_cases hk : k = k0
    · subst hk; simp
    · rw [if_neg hk, if_neg hk]; exact mget_upd k
end

end Go.Proofs.YtjpahfkchhnpoaaGreat

/- slices.Sorted(maps.Keys(m)) at int keys, at maps of accounts. -/
namespace Go.Proofs.YtjpahfkchhnpoaaGreat
open Go.RowKit
open Go.Shelf
open SP
section
variable {α : Type} {f : α → Value} {w w' : World} {R : List SP} {b : Nat} {m : List (Int × α)}

theorem keysAcc_spec (mb : Option Nat) (w : World) : Calls Tryz.prog 109 #[.map mb] w fun e w' => e = .returned (.func (.func 127) #[] #[.pointer (some ⟨w.heap.size, 0, none⟩)]) ∧ w' = w.alloc (.cells #[.map mb] 110) :=
  callsIn_wide.1 (AnyZI.keys_in Tryz.keys109 Fence.wide 5 trivial rfl mb w)

set_option maxHeartbeats 1000000 in
theorem sortedAcc_spec (kb : Nat) (hk : KeyOk m) (hn : m.length ≤ 1000000) (o : Own w (cel kb 110 [.map (some b)] :: mpI f b m :: R)) :
    Calls Tryz.prog 76 #[.func (.func 127) #[] #[.pointer (some ⟨kb, 0, none⟩)]] w fun e w' =>
      ∃ a cap, e = .returned (.slice a m.length cap) ∧ Own w' (slc 3 1 a m.length cap ((sortK m).map (Value.int .i64)) :: mpI f b m :: R) ∧ Calm w w' := by
  obtain ⟨D0, hown, hperm, hsize⟩ := mpI_ownsMap hk hn o.drop
  have hlt := o.celLt
  have hseq : SeqGives Fence.wide 2 Tryz.prog 127 #[.pointer (some ⟨kb, 0, none⟩)] encZ (fun ss => ss.Perm (intKeys D0)) (Maps.size D0) w :=
    AnyZI.keys_gives (ρ := Tryz.keys109_ren) { Tryz.keys109 with } Fence.wide _ trivial rfl (by omega) kb b m.length D0 _ hlt (o.cell 0) hown
  have cS := AnyZI.sorted_in Tryz.sorted Fence.wide 5 trivial trivial trivial trivial rfl (by omega) (Tryz.sortsIn _) (enters_of Tryz.func107 (by kernel_rfl) rfl) 127 #[.pointer (some ⟨kb, 0, none⟩)] trivial (enters_of Tryz.func127 (by kernel_rfl) rfl) _ _
    (by rw [hsize]; unfold maxLen; omega) (by rw [hsize]; omega) _ hseq
  refine (callsIn_wide.1 cS).mono ?_
  rintro e w' ⟨v, ss, rfl, hS, hrow, _, hb⟩
  have hsp := hS.trans hperm
  have hlen : ss.length = m.length := by rw [hsp.length_eq, List.length_map]
  rw [hlen, mergeSort_same hsp] at hrow
  obtain ⟨a, cap, rfl, o2⟩ := own_of_row o.drop hb hrow
  exact ⟨a, cap, rfl, o2, ⟨hb.os, hb.tape, hb.output⟩⟩
end
end Go.Proofs.YtjpahfkchhnpoaaGreat

/- The program's ledger of lags: New, Join, SetWeight, Transfer, Lag. -/
namespace Go.Proofs.YtjpahfkchhnpoaaGreat
open Go.RowKit
open SP
section
variable {W w w' : World} {b N : Nat} {L : List Tg} {R : List SP}

def accV (t : Tg) : Value := .agg #[.int .i64 t.w, .int .i64 t.s]
def LagR (b N : Nat) (L : List Tg) : SP := ex fun (p : Nat × List (Int × Tg)) =>
  st [pu (RepN p.2 L ∧ LgOk N L), cel b 112 [.map (some p.1)], mpI accV p.1 p.2]
theorem LagR.iff : Own w (LagR b N L :: R) ↔ ∃ ab m, RepN m L ∧ LgOk N L ∧ Own w (cel b 112 [.map (some ab)] :: mpI accV ab m :: R) := by
  constructor
  · intro o
    obtain ⟨⟨ab, m⟩, h⟩ := Own.ex.1 o
    obtain ⟨⟨h1, h2⟩, h5⟩ := Own.pu.1 (Own.st.1 h)
    exact ⟨ab, m, h1, h2, h5⟩
  · rintro ⟨ab, m, h1, h2, h5⟩
    exact Own.ex.2 ⟨(ab, m), Own.st.2 (Own.pu.2 ⟨⟨h1, h2⟩, h5⟩)⟩
theorem LagR.ok (o : Own w (LagR b N L :: R)) : LgOk N L := by
  obtain ⟨_, _, _, h, _⟩ := LagR.iff.1 o
  exact h
theorem LagR.le {M : Nat} (h : N ≤ M) (o : Own w (LagR b N L :: R)) : Own w (LagR b M L :: R) := by
  obtain ⟨ab, m, h1, h2, h3⟩ := LagR.iff.1 o
  exact LagR.iff.2 ⟨ab, m, h1, h2.le h, h3⟩

theorem Tryz.zeroAcc (w : World) : (zeroValue 138).run Tryz.prog w = .ok (.agg #[.int .i64 0, .int .i64 0]) w := by kernel_rfl
section
variable {ab : Nat} {m : List (Int × Tg)} {k : Int} {t : Tg}
theorem lookN_some (o : Own w (mpI accV ab m :: R)) (hm : RepN m L) (h : fget L k = some t) :
    (Instr.lookup 110 (.map (some ab)) (.int .i64 k) true).run Tryz.prog w = .ok (.tuple #[.agg #[.int .i64 t.w, .int .i64 t.s], .bool true]) w := by
  rw [run_lookup_mpI Tryz.underlying110 Tryz.underlying3 Tryz.zeroAcc o k true, hm.get, h]; rfl
theorem lookN_one (o : Own w (mpI accV ab m :: R)) (hm : RepN m L) (h : fget L k = some t) :
    (Instr.lookup 110 (.map (some ab)) (.int .i64 k) false).run Tryz.prog w = .ok (.agg #[.int .i64 t.w, .int .i64 t.s]) w := by
  rw [run_lookup_mpI Tryz.underlying110 Tryz.underlying3 Tryz.zeroAcc o k false, hm.get, h]; rfl
theorem lookN_none (o : Own w (mpI accV ab m :: R)) (hm : RepN m L) (h : fget L k = none) :
    (Instr.lookup 110 (.map (some ab)) (.int .i64 k) true).run Tryz.prog w = .ok (.tuple #[.agg #[.int .i64 0, .int .i64 0], .bool false]) w := by
  rw [run_lookup_mpI Tryz.underlying110 Tryz.underlying3 Tryz.zeroAcc o k true, hm.get, h]; rfl
end

set_option maxHeartbeats 800000 in
theorem lagNew_spec (o : Own w R) : Calls Tryz.prog 19 #[] w fun e w' => ∃ b, Ret (.pointer (some ⟨b, 0, none⟩)) (LagR b 0 [] :: R) w e w' := by
  have hmm := @run_makeMap Tryz.prog
  go_enter Tryz.func19, Tryz.ntmps19
  go_wp2
  go_ret
  have o1 := o.mpI_made (f := accV)
  have o2 := o1.alloc (.cells #[.map (some w.heap.size)] 112)
  simp only [World.size_alloc] at o2
  exact ⟨_, rfl, LagR.iff.2 ⟨w.heap.size, [], RepN.start, LgOk.start, o2⟩, ⟨rfl, rfl, rfl⟩⟩

set_option maxHeartbeats 3200000 in
set_option maxRecDepth 100000 in
theorem lagJoin_spec (f wt : Int) (o : Own w (LagR b N L :: R)) :
    Calls Tryz.prog 40 #[.pointer (some ⟨b, 0, none⟩), .int .i64 f, .int .i64 wt] w (Ret (.int .i64 (nJoin L f wt).1) (LagR b N (nJoin L f wt).2 :: R) w) := by
  obtain ⟨ab, m, hm, hok, o1⟩ := LagR.iff.1 o
  have c1 := o1.cell 0
  have hok' := nJoin_ok hok f wt
  by_cases hbad : f < 0 ∨ 32 ≤ f ∨ wt < 1 ∨ 16 < wt
  · have e : nJoin L f wt = (1, L) := by unfold nJoin; rw [if_pos hbad]
    rw [e]; clear e hok'
    have fin : ∀ x, Ret (.int .i64 1) (LagR b N L :: R) w (.returned (.int .i64 1)) (w.alloc x) := fun x => ⟨rfl, o.more x, ⟨rfl, rfl, rfl⟩⟩
    have key : ∃ (t : Tg) (z : Bool), (Instr.lookup 110 (.map (some ab)) (.int .i64 f) true).run Tryz.prog w = .ok (.tuple #[.agg #[.int .i64 t.w, .int .i64 t.s], .bool z]) w := by
      cases hf : fget L f with
      | none => exact ⟨⟨0, 0, 0⟩, false, lookN_none (o1.up 1) hm hf⟩
      | some t => exact ⟨t, true, lookN_some (o1.up 1) hm hf⟩
    obtain ⟨t, z, hlk⟩ := key
    by_cases h1 : f < 0
    · clear hbad
      go_enter Tryz.func40, Tryz.ntmps40
      go_wp2
      go_ret
      exact fin _
    · by_cases h2 : 32 ≤ f
      · clear hbad
        go_enter Tryz.func40, Tryz.ntmps40
        go_wp2
        go_ret
        exact fin _
      · by_cases h3 : wt < 1
        · clear hbad
          go_enter Tryz.func40, Tryz.ntmps40
          go_wp2
          go_ret
          exact fin _
        · have h4 : 16 < wt := by omega
          clear hbad
          go_enter Tryz.func40, Tryz.ntmps40
          go_wp2
          go_ret
          exact fin _
  · have h1 : ¬ f < 0 := by omega
    have h2 : ¬ 32 ≤ f := by omega
    have h3 : ¬ wt < 1 := by omega
    have h4 : ¬ 16 < wt := by omega
    cases hf : fget L f with
    | some t =>
      have e : nJoin L f wt = (7, L) := by unfold nJoin; rw [if_neg hbad, hf]; rfl
      rw [e]; clear e hbad hok'
      have hlk := lookN_some (o1.up 1) hm hf
      clear hf
      go_enter Tryz.func40, Tryz.ntmps40
      go_wp2
      go_ret
      exact ⟨rfl, o.more _, ⟨rfl, rfl, rfl⟩⟩
    | none =>
      have e : nJoin L f wt = (0, insT ⟨f, wt, 0⟩ L) := by unfold nJoin; rw [if_neg hbad, hf]; rfl
      rw [e] at hok' ⊢
      clear e hbad
      have hlk := lookN_none (o1.up 1) hm hf
      have hom := o1.alloc (.cells #[.int .i64 0, .int .i64 0] 138)
      have hrep : RepN (mput m f ⟨f, wt, 0⟩) (insT ⟨f, wt, 0⟩ L) := hm.ins (x := ⟨f, wt, 0⟩) hf (by refine ⟨?_, ?_, ?_, ?_⟩ <;> (simp only; omega))
      have hbl := o1.celLt
      clear hf
      go_enter Tryz.func40, Tryz.ntmps40
      go_wp2_with (at_mapUpdate; refine wpList_mapUpdate_mpI (f := accV) rfl _ _ _ rfl Tryz.underlying110 Tryz.underlying3 (hom.up 2) f ⟨f, wt, 0⟩ rfl rfl rfl ?c1)
      case c1 =>
      intro w1 o2 k2
      go_wp2
      go_ret
      exact ⟨rfl, LagR.iff.2 ⟨ab, _, hrep, hok', o2.re [1, 2, 0] 1⟩, k2.al⟩

def lagV (L : List Tg) (f : Int) : Value := match fget L f with
  | some t => .tuple #[.int .i64 t.s, .bool true]
  | none => .tuple #[.int .i64 0, .bool false]
theorem lagLag_spec (f : Int) (o : Own w (LagR b N L :: R)) :
    Calls Tryz.prog 35 #[.pointer (some ⟨b, 0, none⟩), .int .i64 f] w (Ret (lagV L f) (LagR b N L :: R) w) := by
  obtain ⟨ab, m, hm, hok, o1⟩ := LagR.iff.1 o
  have c1 := o1.cell 0
  have key : ∃ (wt s : Int) (z : Bool), (Instr.lookup 110 (.map (some ab)) (.int .i64 f) true).run Tryz.prog w = .ok (.tuple #[.agg #[.int .i64 wt, .int .i64 s], .bool z]) w ∧ lagV L f = .tuple #[.int .i64 s, .bool z] := by
    unfold lagV
    cases hf : fget L f with
    | none => exact ⟨0, 0, false, lookN_none (o1.up 1) hm hf, rfl⟩
    | some t => exact ⟨t.w, t.s, true, lookN_some (o1.up 1) hm hf, rfl⟩
  obtain ⟨wt, s, z, hlk, e⟩ := key
  rw [e]; clear e
  go_enter Tryz.func35, Tryz.ntmps35
  go_wp2
  go_ret2
  exact ⟨rfl, o.more _, ⟨rfl, rfl, rfl⟩⟩

set_option maxHeartbeats 3200000 in
set_option maxRecDepth 100000 in
theorem lagSetw_spec (f wt : Int) (o : Own w (LagR b N L :: R)) :
    Calls Tryz.prog 52 #[.pointer (some ⟨b, 0, none⟩), .int .i64 f, .int .i64 wt] w (Ret (.int .i64 (nSetw L f wt).1) (LagR b N (nSetw L f wt).2 :: R) w) := by
  obtain ⟨ab, m, hm, hok, o1⟩ := LagR.iff.1 o
  have c1 := o1.cell 0
  have hok' := nSetw_ok hok f wt
  cases hf : fget L f with
  | none =>
    have e : nSetw L f wt = (6, L) := by unfold nSetw; rw [hf]
    rw [e]; clear e hok'
    have hlk := lookN_none (o1.up 1) hm hf
    clear hf
    go_enter Tryz.func52, Tryz.ntmps52
    go_wp2
    go_ret
    exact ⟨rfl, o.more _, ⟨rfl, rfl, rfl⟩⟩
  | some t =>
    have hlk := lookN_some (o1.up 1) hm hf
    by_cases hbad : wt < 1 ∨ 16 < wt
    · have e : nSetw L f wt = (1, L) := by unfold nSetw; rw [hf]; simp only; rw [if_pos hbad]
      rw [e]; clear e hok' hf
      by_cases h1 : wt < 1
      · clear hbad
        go_enter Tryz.func52, Tryz.ntmps52
        go_wp2
        go_ret
        exact ⟨rfl, o.more _, ⟨rfl, rfl, rfl⟩⟩
      · have h2 : 16 < wt := by omega
        clear hbad
        go_enter Tryz.func52, Tryz.ntmps52
        go_wp2
        go_ret
        exact ⟨rfl, o.more _, ⟨rfl, rfl, rfl⟩⟩
    · have e : nSetw L f wt = (0, setT ⟨f, wt, t.s⟩ L) := by unfold nSetw; rw [hf]; simp only; rw [if_neg hbad]
      rw [e] at hok' ⊢
      obtain ⟨h5, h6⟩ := fget_some hf
      have hr := hok.ok.rng t h5
      have h1 : ¬ wt < 1 := by omega
      have h2 : ¬ 16 < wt := by omega
      have hrep : RepN (mput m f ⟨f, wt, t.s⟩) (setT ⟨f, wt, t.s⟩ L) := hm.set (x := ⟨f, wt, t.s⟩) (by show fget L f ≠ none; rw [hf]; simp) (by refine ⟨?_, ?_, ?_, ?_⟩ <;> (simp only; omega))
      clear e hbad hf hr h5 h6
      have hos := o1.alloc (.cells #[.int .i64 wt, .int .i64 t.s] 138)
      have hbl := o1.celLt
      have hbn : b ≠ w.heap.size := by omega
      go_enter Tryz.func52, Tryz.ntmps52
      go_wp2
      refine wp_region_tail 6 (by kernel_rfl) (by kernel_rfl) ?_
      simp only [List.take_succ_cons, List.take_zero, List.drop_succ_cons, List.drop_zero]
      repeat still_step
      refine wpStill_nil ?_
      go_wp2_with (at_mapUpdate; refine wpList_mapUpdate_mpI (f := accV) rfl _ _ _ rfl Tryz.underlying110 Tryz.underlying3 ((hos.up 2).drew) f ⟨f, wt, t.s⟩ rfl rfl rfl ?c1)
      case c1 =>
      intro w1 o2 k2
      go_wp2
      go_ret
      exact ⟨rfl, LagR.iff.2 ⟨ab, _, hrep, hok', o2.re [1, 2, 0] 1⟩, ⟨k2.os, k2.tape, k2.output⟩⟩
end
end Go.Proofs.YtjpahfkchhnpoaaGreat

/- The program's ledger of lags: Parts, Sum. -/
namespace Go.Proofs.YtjpahfkchhnpoaaGreat
open Go.RowKit
open SP
section
variable {W w w' : World} {b N : Nat} {L : List Tg} {R : List SP}

theorem accW (x y : Int) (w : World) : (Instr.field 138 (.agg #[.int .i64 x, .int .i64 y]) 0).run Tryz.prog w = .ok (.int .i64 x) w := by kernel_rfl
theorem accS (x y : Int) (w : World) : (Instr.field 138 (.agg #[.int .i64 x, .int .i64 y]) 1).run Tryz.prog w = .ok (.int .i64 y) w := by kernel_rfl
/-- The flows with their weights. -/
def ptsOf (L : List Tg) : List (Int × Int) := L.map fun t => (t.f, t.w)
theorem ptsOf_len (L : List Tg) : (ptsOf L).length = L.length := by unfold ptsOf; rw [List.length_map]
theorem ptsOf_ok (h : NOk L) : PtOk (ptsOf L) := by
  refine ⟨?_, fun p hp => ?_, by rw [ptsOf_len]; exact h.len⟩
  · unfold ptsOf; rw [List.pairwise_map]; exact h.asc
  · obtain ⟨t, ht, rfl⟩ := List.mem_map.1 hp
    exact h.rng t ht
theorem pws_pts (L : List Tg) : pws (ptsOf L) = wts L := by unfold pws ptsOf wts; rw [List.map_map]; rfl

def PtRel (b ab : Nat) (L : List Tg) (m : List (Int × Tg)) (a : Option Addr) (cap : Nat) (ks : List Int) (R : List SP) (w : World) (v3 v13 : Value) (wr : World) : Prop :=
  ∃ (i : Nat) (a' : Option Addr) (c' : Nat), v13 = .int .i64 (i : Int) ∧ i ≤ L.length ∧ v3 = .slice a' i c' ∧
    Own wr (slc 145 2 a' i c' (flat part ((ptsOf L).take i)) :: slc 3 1 a ks.length cap (ks.map (Value.int .i64)) :: cel b 112 [.map (some ab)] :: mpI accV ab m :: R) ∧ Calm w wr
def PartsPost (b N : Nat) (L : List Tg) (R : List SP) (w : World) (e : Ending) (w' : World) : Prop :=
  ∃ (a : Option Addr) (c : Nat), Ret (.slice a L.length c) (slc 145 2 a L.length c (flat part (ptsOf L)) :: LagR b N L :: R) w e w'

set_option maxHeartbeats 3200000 in
set_option maxRecDepth 100000 in
theorem lagParts_spec (o : Own w (LagR b N L :: R)) :
    Calls Tryz.prog 80 #[.pointer (some ⟨b, 0, none⟩)] w (PartsPost b N L R w) := by
  obtain ⟨ab, m, hm, hok, o1⟩ := LagR.iff.1 o
  have c1 := o1.cell 0
  have hlen := hm.ok.len
  have hml := hm.len
  have hks := hm.sort
  have hbl := o1.celLt
  go_enter Tryz.func80, Tryz.ntmps80
  go_wp2_with fail
  refine (keysAcc_spec _ _).mono ?_
  rintro e1 w1 ⟨rfl, rfl⟩
  have o2 := ((o1.alloc (.cells #[.map (some ab)] 110)).up 2).up 1
  go_wp2_with fail
  refine (sortedAcc_spec w.heap.size hm.keyOk (by omega) o2).mono ?_
  rintro e2 w2 ⟨a, cap, rfl, o3, k3⟩
  rw [hks] at o3
  have hkl : (L.map (·.f)).length = m.length := by rw [List.length_map, hml]
  rw [← hkl] at o3 ⊢
  have hget : ∀ (i : Nat) (t : Tg), L[i]? = some t → (L.map (·.f))[i]? = some t.f := fun i t h => by rw [List.getElem?_map, h]; rfl
  have Hget := Lib.hid hget
  have hkn : (L.map (·.f)).length = L.length := List.length_map _
  generalize L.map (·.f) = ks at *
  have hT : PtRel b ab L m a cap ks R w (.slice none 0 0) (.int .i64 0) w2 :=
    ⟨0, none, 0, rfl, by omega, rfl, Own.slc_nil (o3.re [0, 2, 1]), ⟨k3.os, k3.tape, k3.output⟩⟩
  have Hkn := Lib.hid hkn
  have hk32 : ks.length ≤ 32 := by omega
  clear hkn hkl hks hml o3 k3 o2 o1 c1 hget hbl
  go_wp2
  go_loopw [3, 13] (fun v3 v13 wr => PtRel b ab L m a cap ks R w v3 v13 wr) (fun _ v13 _ => ks.length - (ivOf v13).toNat)
  case atStart => exact hT
  case round =>
    clear hT
    obtain ⟨i, a', c', rfl, hi, rfl, oR, kR⟩ := hrel
    by_cases hlt : i < ks.length
    · obtain ⟨t, ht⟩ : ∃ t, L[i]? = some t := ⟨_, List.getElem?_eq_getElem (by have := Hkn.out; omega)⟩
      have hkt := Hget.out i t ht
      obtain ⟨g, rfl, hc, _, _⟩ := (oR.up 1).slc_cell (by omega)
      have d0 := hc i (.int .i64 t.f) (by rw [List.getElem?_map, hkt]; rfl)
      have c1 := (oR.up 2).cell 0
      have hfg := fget_memN hm.ok (List.mem_of_getElem? ht)
      have hlk := lookN_one (oR.up 3) hm hfg
      have htk : (ptsOf L).take (i + 1) = (ptsOf L).take i ++ [(t.f, t.w)] := by
        rw [List.take_add_one]; unfold ptsOf; rw [List.getElem?_map, ht]; rfl
      have HTK := Lib.hid htk
      have hfl := accW t.w t.s
      have oA := oR.alloc (.cells #[.int .i64 t.f, .int .i64 t.w] 145)
      clear hc hkt ht hfg htk
      go_wp2_with (at_builtin; refine wpList_append_slc rfl _ _ rfl Tryz.partT rfl (oA.up 1) ⟨wr.heap.size, 0, none⟩ 1 1 [.int .i64 t.f, .int .i64 t.w] rfl rfl ?c1 ?c2 ?c3 ?c4 ?c5)
      case c1 => exact Own.news (T := 145) oA
      case c2 => intro u hu; simp at hu; rcases hu with rfl | rfl <;> rfl
      case c3 => unfold maxLen; omega
      case c4 => omega
      case c5 =>
      intro a2 c2 w5 o5 k5
      go_wp2
      go_roundw
      case rel =>
        refine ⟨i + 1, a2, c2, by go_num, by have := Hkn.out; omega, rfl, ?_, kR.trans ⟨k5.os, k5.tape, k5.output⟩⟩
        rw [HTK.out, flat_append]
        exact (o5.up 1).drop
      case measure => simp [ivOf]; omega
    · have hin : i = L.length := by have := Hkn.out; omega
      subst hin
      rw [List.take_of_length_le (by rw [ptsOf_len]; omega)] at oR
      go_wp2
      go_ret
      exact ⟨a', c', rfl, Own.swap (LagR.iff.2 ⟨ab, m, hm, hok, oR.re [1, 2, 3, 0] 1⟩), kR⟩

/-- The sum over the entries that have been visited. -/
def sumV (S : Int → Bool) (m : List (Int × Tg)) : Int := sumI (m.map fun p => if S p.1 then p.2.s else 0)
theorem sumV_none (m : List (Int × Tg)) : sumV (fun _ => false) m = 0 := by
  unfold sumV
  induction m with
  | nil => rfl
  | cons p m ih => rw [List.map_cons, sumI_cons, ih]; rfl
theorem sumI_perm {l l' : List Int} (h : l.Perm l') : sumI l = sumI l' := by
  induction h with
  | nil => rfl
  | cons x _ ih => rw [sumI_cons, sumI_cons, ih]
  | swap x y l => rw [sumI_cons, sumI_cons, sumI_cons, sumI_cons]; omega
  | trans _ _ h1 h2 => rw [h1, h2]
theorem sumV_next {S : Int → Bool} {k : Int} : ∀ {m : List (Int × Tg)} (_ : Uniq m) {t : Tg} (_ : mget m k = some t) (_ : S k = false), sumV (fun z => S z || z == k) m = sumV S m + t.s
  | [], _, t, h, _ => by simp [mget] at h
  | (k0, u) :: m, hu, t, h, hS => by
    unfold Uniq at hu
    rw [List.map_cons, List.nodup_cons] at hu
    unfold sumV
    rw [List.map_cons, List.map_cons, sumI_cons, sumI_cons]
    unfold mget at h
    by_cases hk : k = k0
    · subst hk
      rw [if_pos rfl] at h
      obtain rfl := Option.some.inj h
      have e : m.map (fun p => if (S p.1 || p.1 == k) = true then p.2.s else 0) = m.map (fun p => if S p.1 = true then p.2.s else 0) := by
        refine List.map_congr_left fun p hp => ?_
        have : p.1 ≠ k := fun e => hu.1 (List.mem_map.2 ⟨p, hp, e⟩)
        simp [this]
      rw [e]
      simp [hS]; omega
    · rw [if_neg hk] at h
      have ih := sumV_next (S := S) (k := k) (m := m) hu.2 h hS
      unfold sumV at ih
      rw [ih]
      have : (k0 == k) = false := by simpa using fun e => hk e.symm
      simp [this]; omega
theorem sumV_all {S : Int → Bool} {m : List (Int × Tg)} (h : ∀ x ∈ m, S x.1 = true) (hm : RepN m L) : sumV S m = sumS L := by
  have e : m.map (fun p => if S p.1 = true then p.2.s else 0) = m.map fun p => p.2.s := List.map_congr_left fun p hp => by rw [if_pos (h p hp)]
  unfold sumV
  rw [e]
  have := sumI_perm (hm.perm.map fun p => p.2.s)
  rw [this, List.map_map]; rfl
theorem sumV_abs (S : Int → Bool) (m : List (Int × Tg)) : ab (sumV S m) ≤ sumI (m.map fun p => ab p.2.s) := by
  unfold sumV
  induction m with
  | nil => show ab 0 ≤ 0; decide
  | cons p m ih =>
    rw [List.map_cons, List.map_cons, sumI_cons, sumI_cons]
    generalize sumI (m.map fun p => if S p.1 then p.2.s else 0) = y at *
    generalize sumI (m.map fun p => ab p.2.s) = z at *
    have h1 : ab (if S p.1 = true then p.2.s else 0) ≤ ab p.2.s := by split <;> (unfold ab; omega)
    unfold ab at *
    omega
theorem repN_abs {m : List (Int × Tg)} (hm : RepN m L) : sumI (m.map fun p => ab p.2.s) = absS L := by
  have := sumI_perm (hm.perm.map fun p => ab p.2.s)
  rw [this, List.map_map]
  unfold absS lags
  rw [List.map_map]; rfl

def SumRel (b ab ib : Nat) (_ : List Tg) (m : List (Int × Tg)) (R : List SP) (w : World) (v3 : Value) (wr : World) : Prop :=
  ∃ (S : Int → Bool) (cur : Option Int), v3 = .int .i64 (sumV S m) ∧ Own wr (rng accV ab ib m S cur :: cel b 112 [.map (some ab)] :: R) ∧ Calm w wr
set_option maxHeartbeats 3200000 in
set_option maxRecDepth 100000 in
theorem lagSum_spec (hN : (N : Int) ≤ 1000000000000) (o : Own w (LagR b N L :: R)) :
    Calls Tryz.prog 38 #[.pointer (some ⟨b, 0, none⟩)] w (Ret (.int .i64 (sumS L)) (LagR b N L :: R) w) := by
  obtain ⟨ab, m, hm, hok, o1⟩ := LagR.iff.1 o
  have c1 := o1.cell 0
  have hum := hm.uniq
  obtain ⟨w5, hr5, o9, k9⟩ := run_range_mpI (P := Tryz.prog) Tryz.underlying110 (o1.up 1)
  have hT : SumRel b ab w.heap.size L m R w (.int .i64 0) w5 := ⟨fun _ => false, none, by rw [sumV_none], o9, k9⟩
  have hbd : ∀ S : Int → Bool, Go.Proofs.YtjpahfkchhnpoaaGreat.ab (sumV S m) ≤ 8192 * (N : Int) := fun S => by
    have h1 := sumV_abs S m
    rw [repN_abs hm] at h1
    exact Int.le_trans h1 hok.sm
  have HBd := Lib.hid hbd
  generalize hib : w.heap.size = ib at *
  have HM := Lib.hid hm
  have HOK := Lib.hid hok
  clear o9 k9 hib hbd hm hok
  go_enter Tryz.func38, Tryz.ntmps38
  go_wp2
  go_loopw [3] (fun v wr => SumRel b ab ib L m R w v wr) (fun _ wr => rleft wr ab ib)
  case atStart => exact hT
  case round =>
    clear hT hr5 c1 o1 o
    obtain ⟨S, cur, rfl, oR, kR⟩ := hrel
    rcases run_next_rng (P := Tryz.prog) 0 hum oR with ⟨hd, hr⟩ | ⟨x, w6, hx, hS, hr, o10, k10⟩
    · have hall := sumV_all hd HM.out
      rw [hall]
      have oD := oR.rng_done
      go_wp2
      go_ret
      exact ⟨rfl, LagR.iff.2 ⟨ab, m, HM.out, HOK.out, oD.up 1⟩, kR⟩
    · have hmv := mget_mem hum hx
      have hen := run_entry_rng (P := Tryz.prog) hum o10 hmv
      obtain ⟨k, t⟩ := x
      dsimp only at hS hmv hen o10
      have hnx := sumV_next hum hmv hS
      have b1 := HBd.out S
      have b2 := HBd.out (fun z => S z || z == k)
      rw [hnx] at b2
      unfold accV at hen
      obtain ⟨s0, hs0⟩ : ∃ s0, sumV S m = s0 := ⟨_, rfl⟩
      rw [hs0] at hnx b1 b2 ⊢
      have hw : IntKind.i64.wrap (s0 + t.s) = s0 + t.s := by unfold Go.Proofs.YtjpahfkchhnpoaaGreat.ab at b1 b2; rw [IntKind.wrap_i64]; omega
      have HNX := Lib.hid hnx
      clear hnx b1 b2 hs0
      have oA := o10.alloc (.cells #[.int .i64 t.w, .int .i64 t.s] 138)
      go_wp2
      go_roundw
      case rel => exact ⟨_, _, by rw [HNX.out], oA.drop, ⟨k10.os.trans kR.os, k10.tape.trans kR.tape, k10.output.trans kR.output⟩⟩
      case measure =>
        rw [oA.drop.rleft, oR.rleft]
        exact kleft_lt hx hS
end
end Go.Proofs.YtjpahfkchhnpoaaGreat

/- The order of comp: New, Time, Tag, least, Select. -/
namespace Go.Proofs.YtjpahfkchhnpoaaGreat
open Go.RowKit
open SP

/-- The order behind block b: when it is rebased, the weights of the eligible flows, the tags, the time. -/
def OrdC (b : Nat) (reb : Int) (eb tb : Nat) (el tg : List (Int × Int)) (tm : Int) : SP :=
  st [cel b 115 [.int .i64 reb, .map (some eb), .map (some tb), .int .i64 tm], mpI (Value.int .i64) eb el, mpI (Value.int .i64) tb tg]
def OrderR (b : Nat) (reb : Int) (el tg : List (Int × Int)) (tm : Int) : SP := ex fun (p : Nat × Nat) => OrdC b reb p.1 p.2 el tg tm

section
variable {W w w' : World} {b : Nat} {reb tm : Int} {el tg : List (Int × Int)} {R : List SP}

theorem OrderR.iff : Own w (OrderR b reb el tg tm :: R) ↔ ∃ eb tb, Own w (cel b 115 [.int .i64 reb, .map (some eb), .map (some tb), .int .i64 tm] :: mpI (Value.int .i64) eb el :: mpI (Value.int .i64) tb tg :: R) := by
  constructor
  · intro o
    obtain ⟨⟨eb, tb⟩, h⟩ := Own.ex.1 o
    exact ⟨eb, tb, Own.st.1 h⟩
  · rintro ⟨eb, tb, h⟩
    exact Own.ex.2 ⟨(eb, tb), Own.st.2 h⟩

theorem OrdC.iff {eb tb : Nat} : Own w (OrdC b reb eb tb el tg tm :: R) ↔ Own w (cel b 115 [.int .i64 reb, .map (some eb), .map (some tb), .int .i64 tm] :: mpI (Value.int .i64) eb el :: mpI (Value.int .i64) tb tg :: R) := Own.st
theorem OrderR.ordC : Own w (OrderR b reb el tg tm :: R) ↔ ∃ eb tb, Own w (OrdC b reb eb tb el tg tm :: R) := by
  constructor
  · intro o
    obtain ⟨⟨eb, tb⟩, h⟩ := Own.ex.1 o
    exact ⟨eb, tb, h⟩
  · rintro ⟨eb, tb, h⟩
    exact Own.ex.2 ⟨(eb, tb), h⟩

theorem Tryz.zeroI (w : World) : (zeroValue 3).run Tryz.prog w = .ok (.int .i64 0) w := by kernel_rfl
theorem Tryz.zeroL (w : World) : (zeroValue 2).run Tryz.prog w = .ok (.int .i64 0) w := by kernel_rfl

def tget (m : List (Int × Int)) (k : Int) : Int := (mget m k).getD 0

theorem lookII (mb : Nat) {m : List (Int × Int)} (o : Own w (mpI (Value.int .i64) mb m :: R)) (k : Int) (ok : Bool) :
    (Instr.lookup 113 (.map (some mb)) (.int .i64 k) ok).run Tryz.prog w = .ok (if ok then .tuple #[.int .i64 (tget m k), .bool (mget m k).isSome] else .int .i64 (tget m k)) w := by
  rw [run_lookup_mpI Tryz.underlying113 Tryz.underlying3 Tryz.zeroI o k ok]
  unfold tget
  cases mget m k <;> rfl
theorem lookIL (mb : Nat) {m : List (Int × Int)} (o : Own w (mpI (Value.int .i64) mb m :: R)) (k : Int) (ok : Bool) :
    (Instr.lookup 107 (.map (some mb)) (.int .i64 k) ok).run Tryz.prog w = .ok (if ok then .tuple #[.int .i64 (tget m k), .bool (mget m k).isSome] else .int .i64 (tget m k)) w := by
  rw [run_lookup_mpI Tryz.underlying107 Tryz.underlying3 Tryz.zeroL o k ok]
  unfold tget
  cases mget m k <;> rfl

set_option maxHeartbeats 800000 in
set_option maxRecDepth 100000 in
theorem compNew_spec (r : Int) (h1 : 1 ≤ r) (h2 : r ≤ 1099511627776) (o : Own w R) :
    Calls Tryz.prog 20 #[.int .i64 r] w fun e w' => ∃ b, Ret (.tuple #[.pointer (some ⟨b, 0, none⟩), .int .i64 0]) (OrderR b r [] [] 0 :: R) w e w' := by
  have hmm := @run_makeMap Tryz.prog
  go_enter Tryz.func20, Tryz.ntmps20
  go_wp2
  go_ret2
  have o1 := (o.mpI_made (f := Value.int .i64)).mpI_made (f := Value.int .i64) (α := Int)
  have o2 := (o1.swap).alloc (.cells #[.int .i64 r, .map (some w.heap.size), .map (some (w.heap.size + 1)), .int .i64 0] 115)
  simp only [World.size_alloc] at o2
  exact ⟨_, rfl, OrderR.iff.2 ⟨w.heap.size, w.heap.size + 1, o2⟩, ⟨rfl, rfl, rfl⟩⟩

theorem compTag_spec (k : Int) (o : Own w (OrderR b reb el tg tm :: R)) : Calls Tryz.prog 36 #[.pointer (some ⟨b, 0, none⟩), .int .i64 k] w (Ret (.int .i64 (tget tg k)) (OrderR b reb el tg tm :: R) w) := by
  obtain ⟨eb, tb, o1⟩ := OrderR.iff.1 o
  have c2 := o1.cell 2
  have hlk := lookIL tb (o1.up 2) k false
  simp only [Bool.false_eq_true, if_false] at hlk
  go_enter Tryz.func36, Tryz.ntmps36
  go_wp2
  go_ret
  exact ⟨rfl, o, ⟨rfl, rfl, rfl⟩⟩

/-- The first flow with the least tag, or -1. -/
def leastL (tg : List (Int × Int)) : List Int → Int → Int
  | [], best => best
  | f :: ks, best => leastL tg ks (if best < 0 ∨ tget tg f < tget tg best then f else best)
def leastF (el tg : List (Int × Int)) : Int := leastL tg (sortK el) (-1)

def LeastRel (b eb tb : Nat) (reb tm : Int) (el tg : List (Int × Int)) (a : Option Addr) (cap : Nat) (ks : List Int) (T : Int) (R : List SP) (w : World) (v3 v13 : Value) (wr : World) : Prop :=
  ∃ (i : Nat) (best : Int), v13 = .int .i64 (i : Int) ∧ v3 = .int .i64 best ∧ i ≤ ks.length ∧ leastL tg (ks.drop i) best = T ∧ -9223372036854775808 ≤ best ∧ best ≤ 9223372036854775807 ∧
    Own wr (slc 3 1 a ks.length cap (ks.map (Value.int .i64)) :: OrdC b reb eb tb el tg tm :: R) ∧ Calm w wr

theorem sortK_length {α : Type} (m : List (Int × α)) : (sortK m).length = m.length := by unfold sortK; rw [List.length_mergeSort, List.length_map]
theorem sortK_mem {α : Type} {m : List (Int × α)} {k : Int} : k ∈ sortK m ↔ k ∈ m.map (·.1) := by unfold sortK; exact (List.mergeSort_perm _ _).mem_iff

set_option maxHeartbeats 1600000 in
set_option maxRecDepth 100000 in
theorem leastC_spec {eb tb : Nat} (hk : KeyOk el) (hn : el.length ≤ 1000) (o : Own w (OrdC b reb eb tb el tg tm :: R)) :
    Calls Tryz.prog 116 #[.pointer (some ⟨b, 0, none⟩)] w (Ret (.int .i64 (leastF el tg)) (OrdC b reb eb tb el tg tm :: R) w) := by
  have o1 := OrdC.iff.1 o
  have c1 := o1.cell 1
  go_enter Tryz.func116, Tryz.ntmps116
  go_wp2_with fail
  refine (keysInt_spec _ _).mono ?_
  rintro e1 w1 ⟨rfl, rfl⟩
  have o2 := ((o1.alloc (.cells #[.map (some eb)] 113)).up 2).up 1
  go_wp2_with fail
  refine (sortedInt_spec w.heap.size hk (by omega) o2).mono ?_
  rintro e2 w2 ⟨a, cap, rfl, o3, k3⟩
  have hl := sortK_length el
  have hkm : ∀ k ∈ sortK el, -9223372036854775808 ≤ k ∧ k ≤ 9223372036854775807 := fun k h => by
    obtain ⟨x, hx, rfl⟩ := List.mem_map.1 (sortK_mem.1 h)
    exact hk.2 x hx
  have hT : LeastRel b eb tb reb tm el tg a cap (sortK el) (leastF el tg) R w (.int .i64 (-1)) (.int .i64 0) w2 :=
    ⟨0, -1, rfl, rfl, Nat.zero_le _, rfl, by omega, by omega, by
      rw [hl]
      refine Own.swap (OrdC.iff.2 ?_)
      exact ((o3.up 3).up 2).up 3, ⟨k3.os, k3.tape, k3.output⟩⟩
  generalize leastF el tg = T at *
  generalize hks : sortK el = ks at *
  rw [← hl]
  have hkl : ks.length ≤ 1000 := by omega
  have Hl := Lib.hid hl
  clear hl o3 k3 o2 o1 c1 hks
  go_wp2
  go_loopw [3, 13] (fun v3 v13 wr => LeastRel b eb tb reb tm el tg a cap ks T R w v3 v13 wr) (fun _ v13 _ => ks.length - (intOf v13).toNat)
  case atStart => exact hT
  case round =>
    obtain ⟨i, best, rfl, rfl, hi, hT, hb1, hb2, oR, kR⟩ := hrel
    have HT := Lib.hid hT
    clear hT
    by_cases hlt : i < ks.length
    · obtain ⟨f, hf⟩ : ∃ f, ks[i]? = some f := ⟨_, List.getElem?_eq_getElem hlt⟩
      obtain ⟨g, rfl, hc, _, _⟩ := oR.slc_cell (by omega)
      have d0 := hc i (.int .i64 f) (by rw [List.getElem?_map, hf]; rfl)
      have hfr := hkm f (List.mem_of_getElem? hf)
      have o4 := OrdC.iff.1 (oR.up 1)
      have c2 := o4.cell 2
      have l1 := fun n => lookIL tb ((o4.up 2).drewN n) f false
      have l2 := fun n => lookIL tb ((o4.up 2).drewN n) best false
      simp only [Bool.false_eq_true, if_false] at l1 l2
      have hstep : leastL tg (ks.drop i) best = leastL tg (ks.drop (i + 1)) (if best < 0 ∨ tget tg f < tget tg best then f else best) := by
        rw [List.drop_eq_getElem_cons hlt]
        have : ks[i] = f := (List.getElem?_eq_some_iff.1 hf).2
        rw [this]; rfl
      have Hstep := Lib.hid hstep
      clear hc hstep hf
      by_cases hbn : best < 0
      · have hd : decide (best < 0) = true := by simpa using hbn
        go_wp2
        go_quiet (fail)
        go_wp2
        go_roundw
        case rel => exact ⟨i + 1, f, by go_num, rfl, by omega, by rw [← HT.out, Hstep.out, if_pos (.inl hbn)], hfr.1, hfr.2, oR.drewN _, kR.dn _⟩
        case measure => simp [intOf]; omega
      · have hd : decide (best < 0) = false := by simpa using hbn
        by_cases hlt2 : tget tg f < tget tg best
        · have hd2 : decide (tget tg f < tget tg best) = true := by simpa using hlt2
          go_wp2
          go_quiet (fail)
          go_wp2
          go_roundw
          case rel => exact ⟨i + 1, f, by go_num, rfl, by omega, by rw [← HT.out, Hstep.out, if_pos (.inr hlt2)], hfr.1, hfr.2, oR.drewN _, kR.dn _⟩
          case measure => simp [intOf]; omega
        · have hd2 : decide (tget tg f < tget tg best) = false := by simpa using hlt2
          go_wp2
          go_quiet (fail)
          go_wp2
          go_roundw
          case rel => exact ⟨i + 1, best, by go_num, rfl, by omega, by rw [← HT.out, Hstep.out, if_neg (by omega)], hb1, hb2, oR.drewN _, kR.dn _⟩
          case measure => simp [intOf]; omega
    · go_wp2
      go_ret
      have : ks.drop i = [] := List.drop_eq_nil_of_le (by omega)
      have hTb : best = T := by rw [← HT.out, this]; rfl
      exact ⟨by rw [hTb]; rfl, oR.drop, kR⟩
theorem least_spec (hk : KeyOk el) (hn : el.length ≤ 1000) (o : Own w (OrderR b reb el tg tm :: R)) :
    Calls Tryz.prog 116 #[.pointer (some ⟨b, 0, none⟩)] w (Ret (.int .i64 (leastF el tg)) (OrderR b reb el tg tm :: R) w) := by
  obtain ⟨eb, tb, o1⟩ := OrderR.ordC.1 o
  exact (leastC_spec hk hn o1).mono fun e w' ⟨h1, h2, h3⟩ => ⟨h1, OrderR.ordC.2 ⟨eb, tb, h2⟩, h3⟩
end
end Go.Proofs.YtjpahfkchhnpoaaGreat

/- The order of comp: Select, Eligible, Forget. -/
namespace Go.Proofs.YtjpahfkchhnpoaaGreat
open Go.RowKit
open SP

section
variable {W w w' : World} {b : Nat} {reb tm : Int} {el tg : List (Int × Int)} {R : List SP}

theorem leastL_range (tg : List (Int × Int)) : ∀ (ks : List Int) (best : Int), (∀ k ∈ ks, 0 ≤ k) → leastL tg ks best = best ∨ leastL tg ks best ∈ ks
  | [], best, _ => .inl rfl
  | f :: ks, best, h => by
    unfold leastL
    rcases leastL_range tg ks (if best < 0 ∨ tget tg f < tget tg best then f else best) (fun k hk => h k (by simp [hk])) with h1 | h1
    · rw [h1]
      split
      · exact .inr (by simp)
      · exact .inl rfl
    · exact .inr (by simp [h1])

def selV (el tg : List (Int × Int)) : Value := if leastF el tg < 0 then .tuple #[.int .i64 0, .int .i64 5] else .tuple #[.int .i64 (leastF el tg), .int .i64 0]

set_option maxHeartbeats 800000 in
set_option maxRecDepth 100000 in
theorem select_spec (hk : KeyOk el) (hn : el.length ≤ 1000) (o : Own w (OrderR b reb el tg tm :: R)) :
    Calls Tryz.prog 91 #[.pointer (some ⟨b, 0, none⟩)] w (Ret (selV el tg) (OrderR b reb el tg tm :: R) w) := by
  have hls := least_spec hk hn o
  unfold selV
  generalize leastF el tg = x at *
  by_cases h : x < 0
  · rw [if_pos h]
    go_enter Tryz.func91, Tryz.ntmps91
    go_wp2_with fail
    refine hls.mono ?_
    rintro e1 w1 ⟨rfl, o1, k1⟩
    go_wp2
    go_ret2
    exact ⟨rfl, o1, k1⟩
  · rw [if_neg h]
    go_enter Tryz.func91, Tryz.ntmps91
    go_wp2_with fail
    refine hls.mono ?_
    rintro e1 w1 ⟨rfl, o1, k1⟩
    go_wp2
    go_ret2
    exact ⟨rfl, o1, k1⟩

/-! ### Eligible -/
def eligBad : Int → List (Int × Int) → Bool
  | _, [] => false
  | last, p :: l => decide (p.1 ≤ last) || decide (32 ≤ p.1) || decide (p.2 < 1) || decide (16 < p.2) || eligBad p.1 l
def eligTg (el : List (Int × Int)) (tm : Int) : List (Int × Int) → List (Int × Int) → List (Int × Int)
  | [], tg => tg
  | p :: l, tg => eligTg el tm l (if (mget el p.1).isSome then tg else mput tg p.1 (max (tget tg p.1) tm))
def eligEl : List (Int × Int) → List (Int × Int) → List (Int × Int)
  | [], m => m
  | p :: l, m => eligEl l (mput m p.1 p.2)

def EligRes (b : Nat) (reb tm : Int) (el tg : List (Int × Int)) (l : List (Int × Int)) (S : SP) (R : List SP) (w : World) (e : Ending) (w' : World) : Prop :=
  if eligBad (-1) l = true then Ret (.int .i64 1) (S :: OrderR b reb el tg tm :: R) w e w' else Ret (.int .i64 0) (S :: OrderR b reb (eligEl l []) (eligTg el tm l tg) tm :: R) w e w'

def ElRel1 (b : Nat) (reb tm : Int) (el tg l : List (Int × Int)) (B : Bool) (S : SP) (R : List SP) (w : World) (v5 v15 : Value) (wr : World) : Prop :=
  ∃ (i : Nat) (last : Int), v15 = .int .i64 (i : Int) ∧ v5 = .int .i64 last ∧ i ≤ l.length ∧ eligBad last (l.drop i) = B ∧ Own wr (S :: OrderR b reb el tg tm :: R) ∧ Calm w wr

def ElRel2 (b : Nat) (reb tm : Int) (el l : List (Int × Int)) (TG EL : List (Int × Int)) (eb : Nat) (S : SP) (R : List SP) (w : World) (v44 : Value) (wr : World) : Prop :=
  ∃ (i : Nat) (tg' m : List (Int × Int)), v44 = .int .i64 (i : Int) ∧ i ≤ l.length ∧ eligTg el tm (l.drop i) tg' = TG ∧ eligEl (l.drop i) m = EL ∧ Own wr (S :: OrderR b reb el tg' tm :: mpI (Value.int .i64) eb m :: R) ∧ Calm w wr

theorem eligBad_step {last : Int} {p : Int × Int} {l : List (Int × Int)} : eligBad last (p :: l) = true ↔ p.1 ≤ last ∨ 32 ≤ p.1 ∨ p.2 < 1 ∨ 16 < p.2 ∨ eligBad p.1 l = true := by
  simp [eligBad, or_assoc]

set_option maxHeartbeats 3200000 in
set_option maxRecDepth 100000 in
theorem eligibleG_spec (S : SP) (a : Option Addr) (n c : Nat) (l : List (Int × Int)) (hS : PartsAt S a l) (hn : n = l.length) (hn2 : n ≤ 1000) (o : Own w (S :: OrderR b reb el tg tm :: R)) :
    Calls Tryz.prog 60 #[.pointer (some ⟨b, 0, none⟩), .slice a n c] w (EligRes b reb tm el tg l S R w) := by
  have hmm := @run_makeMap Tryz.prog
  have hT : ElRel1 b reb tm el tg l (eligBad (-1) l) S R w (.int .i64 (-1)) (.int .i64 0) w := ⟨0, -1, rfl, rfl, by omega, rfl, o, Calm.refl w⟩
  generalize hBB : eligBad (-1) l = B at *
  have HBB := Lib.hid hBB
  clear hBB
  have Hn := Lib.hid hn
  clear hn
  go_enter Tryz.func60, Tryz.ntmps60
  go_wp2
  go_loopw [5, 15] (fun v5 v15 wr => ElRel1 b reb tm el tg l B S R w v5 v15 wr) (fun _ v15 _ => n - (intOf v15).toNat)
  case atStart => exact hT
  case round =>
    obtain ⟨i, last, rfl, rfl, hi, hB, oR, kR⟩ := hrel
    have HB := Lib.hid hB
    clear hB
    by_cases hlt : i < n
    · obtain ⟨p, hp⟩ : ∃ p, l[i]? = some p := ⟨_, List.getElem?_eq_getElem (by have := Hn.out; omega)⟩
      obtain ⟨g, so, rfl, d0, d1⟩ := hS _ _ oR i _ hp
      have hd := drop_cons hp
      have HD := Lib.hid hd
      obtain ⟨x, y⟩ := p
      dsimp only at d0 d1
      clear hd hp
      have oA := (oR.alloc (.cells #[.int .i64 x, .int .i64 y] 145))
      have e0 := Own.cell (T := 145) (vs := [.int .i64 x, .int .i64 y]) oA 0
      have e1 := Own.cell (T := 145) (vs := [.int .i64 x, .int .i64 y]) oA 1
      by_cases h1 : x ≤ last
      · go_wp2
        go_ret
        have this : eligBad (-1) l = true := HBB.out.trans (by rw [← HB.out, HD.out, eligBad_step]; exact .inl h1)
        rw [EligRes, if_pos this]
        exact ⟨rfl, oA.drop, ⟨kR.os, kR.tape, kR.output⟩⟩
      · by_cases h2 : 32 ≤ x
        · go_wp2
          go_ret
          have this : eligBad (-1) l = true := HBB.out.trans (by rw [← HB.out, HD.out, eligBad_step]; exact .inr (.inl h2))
          rw [EligRes, if_pos this]
          exact ⟨rfl, oA.drop, ⟨kR.os, kR.tape, kR.output⟩⟩
        · by_cases h3 : y < 1
          · go_wp2
            go_ret
            have this : eligBad (-1) l = true := HBB.out.trans (by rw [← HB.out, HD.out, eligBad_step]; exact .inr (.inr (.inl h3)))
            rw [EligRes, if_pos this]
            exact ⟨rfl, oA.drop, ⟨kR.os, kR.tape, kR.output⟩⟩
          · by_cases h4 : 16 < y
            · go_wp2
              go_ret
              have this : eligBad (-1) l = true := HBB.out.trans (by rw [← HB.out, HD.out, eligBad_step]; exact .inr (.inr (.inr (.inl h4))))
              rw [EligRes, if_pos this]
              exact ⟨rfl, oA.drop, ⟨kR.os, kR.tape, kR.output⟩⟩
            · go_wp2
              go_roundw
              case rel =>
                refine ⟨i + 1, x, by go_num, rfl, by have := Hn.out; omega, ?_, oA.drop, ⟨kR.os, kR.tape, kR.output⟩⟩
                rw [← HB.out, HD.out]
                rw [Bool.eq_iff_iff, eligBad_step]
                constructor
                · exact fun h => .inr (.inr (.inr (.inr h)))
                · rintro (h | h | h | h | h)
                  · exact absurd h h1
                  · exact absurd h h2
                  · exact absurd h h3
                  · exact absurd h h4
                  · exact h
              case measure => simp [intOf]; omega
    · have hBf : eligBad (-1) l = false := by rw [HBB.out, ← HB.out, List.drop_eq_nil_of_le (by have := Hn.out; omega)]; rfl
      have HBf := Lib.hid hBf
      clear hBf
      have o2 := ((oR.mpI_made (f := Value.int .i64) (α := Int)).up 2).up 2
      have hT2 : ElRel2 b reb tm el l (eligTg el tm l tg) (eligEl l []) wr.heap.size S R w (.int .i64 0) (wr.alloc (.map #[] 0)) :=
        ⟨0, tg, [], rfl, by omega, rfl, rfl, o2, ⟨kR.os, kR.tape, kR.output⟩⟩
      generalize h1 : eligTg el tm l tg = TG at *
      generalize h2 : eligEl l [] = EL at *
      have H1 := Lib.hid h1
      have H2 := Lib.hid h2
      clear h1 h2
      clear o2 HB hi
      obtain ⟨nb, hnb⟩ : ∃ nb, nb = wr.heap.size := ⟨_, rfl⟩
      have HNB := Lib.hid hnb
      clear hnb
      go_wp2
      go_loopw [44] (fun v44 wr' => ElRel2 b reb tm el l TG EL wr.heap.size S R w v44 wr') (fun v44 _ => n - (intOf v44).toNat)
      case atStart => exact hT2
      case round =>
        clear hT2 hT oR kR hmm
        obtain ⟨i, tg', m, rfl, hi, hTG, hEL, oR, kR⟩ := hrel
        have HTG := Lib.hid hTG
        have HEL := Lib.hid hEL
        clear hTG hEL
        by_cases hlt : i < n
        · obtain ⟨p, hp⟩ : ∃ p, l[i]? = some p := ⟨_, List.getElem?_eq_getElem (by have := Hn.out; omega)⟩
          obtain ⟨g, so, rfl, d0, d1⟩ := hS _ _ oR i _ hp
          have hd := drop_cons hp
          have HD := Lib.hid hd
          obtain ⟨x, y⟩ := p
          dsimp only at d0 d1
          clear hd hp
          obtain ⟨eb', tb', oB⟩ := OrderR.iff.1 (oR.up 1)
          have oA := (oB.alloc (.cells #[.int .i64 x, .int .i64 y] 145))
          have e0 := fun k => Own.cell (T := 145) (vs := [.int .i64 x, .int .i64 y]) (oA.drewN k) 0
          have e1 := fun k => Own.cell (T := 145) (vs := [.int .i64 x, .int .i64 y]) (oA.drewN k) 1
          have hbl := oB.celLt
          have hfr := oB.frozen
          have c1 := oB.cell 1
          have c2 := oB.cell 2
          have c3 := oB.cell 3
          have l1 := fun n => lookII eb' ((oA.up 2).drewN n) x true
          simp only [if_true] at l1
          cases hin : (mget el x).isSome with
          | true =>
            rw [hin] at l1
            go_wp2
            go_quiet (fail)
            go_wp2_with (at_mapUpdate; refine wpList_mapUpdate_mpI rfl _ _ _ rfl Tryz.underlying113 Tryz.underlying3 ((oA.drewN _).up 5) x y rfl rfl rfl ?_; intro w1 o6 k6)
            go_roundw
            case rel =>
              refine ⟨i + 1, tg', mput m x y, by go_num, by have := Hn.out; omega, ?_, ?_, ?_, kR.trans ⟨k6.os, k6.tape, k6.output⟩⟩
              · rw [← HTG.out, HD.out, eligTg, if_pos hin]
              · rw [← HEL.out, HD.out]; rfl
              · exact (OrderR.iff.2 ⟨eb', tb', ((((o6.up 1).drop.up 4).up 4).up 4).up 4⟩).up 1
            case measure => simp [intOf]; omega
          | false =>
            rw [hin] at l1
            have l2 := fun n => lookIL tb' ((oA.up 3).drewN n) x false
            simp only [Bool.false_eq_true, if_false] at l2
            go_wp2
            go_quiet (fail)
            go_wp2
            refine wp_region_tail 18 (by kernel_rfl) (by kernel_rfl) ?_
            simp only [List.take_succ_cons, List.take_zero, List.drop_succ_cons, List.drop_zero]
            repeat still_step
            refine wpStill_nil ?_
            go_wp2_with (at_mapUpdate; refine wpList_mapUpdate_mpI rfl _ _ _ rfl Tryz.underlying107 Tryz.underlying3 (((oA.up 3).drewN _).drew) x (max (tget tg' x) tm) rfl rfl rfl ?c1)
            case c1 =>
            intro w1 o6 k6
            have q := o6.up 1
            have q0 := Own.cell (T := 145) (vs := [.int .i64 x, .int .i64 y]) q 0
            have q1 := Own.cell (T := 145) (vs := [.int .i64 x, .int .i64 y]) q 1
            go_wp2_with (at_mapUpdate; refine wpList_mapUpdate_mpI rfl _ _ _ rfl Tryz.underlying113 Tryz.underlying3 (q.up 5) x y rfl rfl rfl ?_; intro w2 o7 k7)
            go_roundw
            case rel =>
              refine ⟨i + 1, mput tg' x (max (tget tg' x) tm), mput m x y, by go_num, by have := Hn.out; omega, ?_, ?_, ?_, kR.trans (Calm.trans ⟨k6.os, k6.tape, k6.output⟩ k7)⟩
              · rw [← HTG.out, HD.out, eligTg, if_neg (by rw [hin]; simp)]
              · rw [← HEL.out, HD.out]; rfl
              · have o8 := (o7.up 1).drop
                exact (OrderR.iff.2 ⟨eb', tb', (((o8.up 4).up 2).up 4).up 4⟩).up 1
            case measure => simp [intOf]; omega
        · obtain ⟨eb', tb', oB⟩ := OrderR.iff.1 (oR.up 1)
          have hbl := oB.celLt
          have hfr := oB.frozen
          have c1 := oB.cell 1
          go_wp2
          go_ret
          have hdn : l.drop i = [] := List.drop_eq_nil_of_le (by have := Hn.out; omega)
          rw [EligRes, if_neg (by rw [HBf.out]; simp)]
          refine ⟨rfl, ?_, ⟨kR.os, kR.tape, kR.output⟩⟩
          have e1 : tg' = TG := by rw [← HTG.out, hdn]; rfl
          have e2 : m = EL := by rw [← HEL.out, hdn]; rfl
          rw [H1.out, H2.out, ← e1, ← e2]
          have o9 := oB.setCell 1 (.map (some nb))
          rw [HNB.out] at o9
          exact (OrderR.iff.2 ⟨_, tb', (((((o9.up 1).drop).up 2).up 2).up 3).up 3⟩).up 1

theorem eligible_spec (a : Option Addr) (n c : Nat) (l : List (Int × Int)) (hn : n = l.length) (hn2 : n ≤ 1000) (o : Own w (slc 145 2 a n c (flat part l) :: OrderR b reb el tg tm :: R)) :
    Calls Tryz.prog 60 #[.pointer (some ⟨b, 0, none⟩), .slice a n c] w (EligRes b reb tm el tg l (slc 145 2 a n c (flat part l)) R w) :=
  eligibleG_spec _ a n c l (partsAt_slc a n c l hn) hn hn2 o

theorem forget_spec (k : Int) (o : Own w (OrderR b reb el tg tm :: R)) :
    Calls Tryz.prog 45 #[.pointer (some ⟨b, 0, none⟩), .int .i64 k] w (Ret (.tuple #[]) (OrderR b reb (mdel el k) (mdel tg k) tm :: R) w) := by
  obtain ⟨eb, tb, o1⟩ := OrderR.iff.1 o
  have c1 := o1.cell 1
  go_enter Tryz.func45, Tryz.ntmps45
  go_wp2_with (at_delete; refine wpList_delete_mpI rfl _ _ rfl Tryz.underlying113 Tryz.underlying3 (o1.up 1) k rfl rfl ?c1)
  case c1 =>
  intro w1 o2 k2
  have c2 := (o2.up 1).cell 2
  go_wp2_with (at_delete; refine wpList_delete_mpI rfl _ _ rfl Tryz.underlying107 Tryz.underlying3 (o2.up 2) k rfl rfl ?c2)
  case c2 =>
  intro w2 o3 k3
  go_wp2
  go_end0
  exact ⟨rfl, OrderR.iff.2 ⟨eb, tb, (o3.up 1).up 2⟩, k2.trans k3⟩
end
end Go.Proofs.YtjpahfkchhnpoaaGreat
