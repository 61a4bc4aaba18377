/- Records, plain: which are valid, their lines; decimal numerals. -/
import Derived.Lib.ItoaNum
import Derived.Test.YtlccalkikjfimaaGreatDoorCom
namespace Go.Proofs.YtlccalkikjfimaaGreatDoor
open Go.RowKit

structure Rec where
  slot : Int
  kind : Int
  flow : Int
  packet : Int
  why : Int
  value : Int
instance : DecidableEq Rec := fun a b => decidable_of_iff (a.slot = b.slot ∧ a.kind = b.kind ∧ a.flow = b.flow ∧ a.packet = b.packet ∧ a.why = b.why ∧ a.value = b.value) ⟨fun ⟨h1, h2, h3, h4, h5, h6⟩ => by cases a; cases b; simp_all, fun h => by rw [h]; exact ⟨rfl, rfl, rfl, rfl, rfl, rfl⟩⟩
def recC (r : Rec) : List Value := [.int .i64 r.slot, .int .i64 r.kind, .int .i64 r.flow, .int .i64 r.packet, .int .i64 r.why, .int .i64 r.value]
def recV (r : Rec) : Value := .agg #[.int .i64 r.slot, .int .i64 r.kind, .int .i64 r.flow, .int .i64 r.packet, .int .i64 r.why, .int .i64 r.value]
theorem recC_len (r : Rec) : (recC r).length = 6 := rfl
/-- A record whose numbers are numbers of the machine. -/
def RecIn (r : Rec) : Prop := ∀ x ∈ [r.slot, r.kind, r.flow, r.packet, r.why, r.value], -9223372036854775808 ≤ x ∧ x ≤ 9223372036854775807
structure RecOk (r : Rec) : Prop where
  slot : 0 ≤ r.slot ∧ r.slot ≤ 16384
  kind : 1 ≤ r.kind ∧ r.kind ≤ 10
  flow : -1 ≤ r.flow ∧ r.flow < 32
  packet : 0 ≤ r.packet ∧ r.packet ≤ 262144
  why : 0 ≤ r.why ∧ r.why ≤ 6
  value : -4611686018427387904 ≤ r.value ∧ r.value ≤ 4611686018427387904
instance (r : Rec) : Decidable (RecOk r) := decidable_of_iff ((0 ≤ r.slot ∧ r.slot ≤ 16384) ∧ (1 ≤ r.kind ∧ r.kind ≤ 10) ∧ (-1 ≤ r.flow ∧ r.flow < 32) ∧ (0 ≤ r.packet ∧ r.packet ≤ 262144) ∧ (0 ≤ r.why ∧ r.why ≤ 6) ∧ -4611686018427387904 ≤ r.value ∧ r.value ≤ 4611686018427387904)
  ⟨fun ⟨h1, h2, h3, h4, h5, h6⟩ => ⟨h1, h2, h3, h4, h5, h6⟩, fun h => ⟨h.slot, h.kind, h.flow, h.packet, h.why, h.value⟩⟩

/-! ### Decimal numerals -/
def dig (n : Nat) : List UInt8 := [UInt8.ofNat (48 + n)]
/-- Digits ahead of a text. -/
theorem dec_step {n : Nat} (h : 9 < n) (s : List UInt8) : Lib.decDigits n ++ s = Lib.decDigits (n / 10) ++ (dig (n % 10) ++ s) := by
  conv => lhs; rw [Lib.decDigits, dif_neg (by omega)]
  rw [List.append_assoc]; rfl
theorem dec_last {n : Nat} (h : ¬ 9 < n) (s : List UInt8) : Lib.decDigits n ++ s = dig n ++ s := by
  rw [Lib.decDigits, dif_pos (by omega)]; rfl
theorem itoa_nonneg {n : Int} (h : 0 ≤ n) : Lib.itoa n = Lib.decDigits n.toNat := by
  unfold Lib.itoa; rw [if_neg (by omega)]
theorem itoa_neg {n : Int} (h : n < 0) : Lib.itoa n = 45 :: Lib.itoa (-n) := by
  have h1 : Lib.itoa (-n) = Lib.decDigits (-n).toNat := itoa_nonneg (by omega)
  rw [h1]
  unfold Lib.itoa
  rw [if_pos h]
  congr 2
  omega
theorem nDigits_le : ∀ (k u : Nat), u < 10 ^ (k + 1) → Lib.nDigits u ≤ k + 1
  | 0, u, h => by rw [Lib.nDigits_small (by simpa using h)]; exact Nat.le_refl _
  | k + 1, u, h => by
    by_cases h10 : u < 10
    · rw [Lib.nDigits_small h10]; omega
    · rw [Lib.nDigits_big h10]
      have := nDigits_le k (u / 10) (by rw [Nat.pow_succ] at h; omega)
      omega
theorem dec_len {u : Nat} (h : u ≤ 9223372036854775808) : (Lib.decDigits u).length ≤ 19 := by
  rw [Lib.decDigits_length]
  exact nDigits_le 18 u (Nat.lt_of_le_of_lt h (by decide))
theorem itoa_len {n : Int} (h0 : -9223372036854775808 ≤ n) (h1 : n ≤ 9223372036854775807) : (Lib.itoa n).length ≤ 20 := by
  unfold Lib.itoa
  split
  · have := dec_len (u := n.natAbs) (by omega)
    rw [List.length_cons]; omega
  · have := dec_len (u := n.toNat) (by omega)
    omega
def wordList : List (List UInt8) := [[97, 99, 99, 101, 112, 116], [100, 114, 111, 112], [115, 101, 110, 100], [100, 101, 108, 105, 118, 101, 114], [99, 104, 111, 111, 115, 101], [114, 101, 98, 97, 115, 101], [108, 101, 97, 118, 101], [106, 111, 105, 110], [119, 101, 105, 103, 104, 116], [109, 111, 100, 101]]
def wordOf (k : Int) : List UInt8 := wordList.getD (k - 1).toNat []
/-- The line of a record. -/
def lineOf (r : Rec) : List UInt8 :=
  Lib.itoa r.slot ++ 32 :: (wordOf r.kind ++ 32 :: (Lib.itoa r.flow ++ 32 :: (Lib.itoa r.packet ++ 32 :: (Lib.itoa r.why ++ 32 :: Lib.itoa r.value))))
def fmtS (r : Rec) : List UInt8 := if RecOk r then lineOf r else []
def fmtE (r : Rec) : Int := if RecOk r then 0 else 1
def selR (k f : Int) (r : Rec) : Bool := (k == 0 || r.kind == k) && (f == -2 || r.flow == f)
end Go.Proofs.YtlccalkikjfimaaGreatDoor
