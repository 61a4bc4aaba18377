/- RecordLog: the walk. -/
import Derived.Test.YtlccalkikjfimaaGreatDoorRdU
import Derived.Test.YtlccalkikjfimaaGreatDoorRdV
import Derived.Test.YtlccalkikjfimaaGreatDoorRcF
import Derived.Laws.Rows
namespace Go.Proofs.YtlccalkikjfimaaGreatDoor
open Go.RowKit
open Go.Shelf
open SP
/-- The text of drawn lines: k lines are still to come. -/
def LgRel (W w : World) (cb N k0 : Nat) (vk vt : Value) (wr : World) : Prop :=
  ∃ (k : Nat) (t : ByteArray), vk = .int .i64 (k : Int) ∧ k ≤ k0 ∧ vt = .string t ∧ t.size ≤ 301 * (k0 - k) ∧ Own wr (Ch W cb (N + 13 * (k0 - k)) :: old W :: []) ∧ Calm w wr
set_option maxHeartbeats 25600000 in
set_option maxRecDepth 100000 in
theorem recordLog_walk (a0 : Option Addr) (len0 cap0 : Nat) (z0 : List Int) (a1 : Option Addr) (len1 cap1 : Nat) (L : List Rec) (p : ByteArray) (w : World) (w0 : IsRow .i64 w a0 len0 cap0 z0) (w1 : RecsAt (old w) a1 L) (l1 : len1 = L.length) (m1 : len1 ≤ 9223372036854775807) (mp : p.size ≤ maxLen) (hT : TabsR w) (hm : MaxV w) (he : ErrW w) :
    Calls Tryz.prog 3 #[.slice a0 len0 cap0, .slice a1 len1 cap1, .string p] w fun e w' => e = .returned (.bool true) ∧ Below w.heap.size w w' := by
  have oW := Own.start w
  have HD := Lib.hid fun (w2 : World) (R : List SP) (s : ByteArray) (hs : s.size ≤ 3000) (o1 : Own w2 (old w :: R)) => decodes_spec s hs hm he hT o1
  have HE := Lib.hid fun (w2 : World) (R : List SP) (l : List Rec) (a : Option Addr) (n c : Nat) (hn : n = l.length) (hn2 : n ≤ 1000) (o1 : Own w2 (slc 39 6 a n c (flat recC l) :: old w :: R)) => encodes_spec (recsAt_slc (T := 39) a n c l hn) hn (c := c) hn2 (fun w3 o3 => Own.tabsR hT o3.swap) o1
  have HF := Lib.hid fun (h : len1 ≤ 1000) (w2 : World) (R : List SP) (o1 : Own w2 (old w :: R)) => encodes_spec w1 l1 (c := cap1) h (fun w3 o3 => Own.tabsR hT o3) o1
  have HA := Lib.hid fun (w1 : World) (R : List SP) (o1 : Own w1 (old w :: R)) => awake28_spec hT o1
  clear hm he hT w1 l1
  go_enter Tryz.func3, Tryz.ntmps3
  go_wp2_with fail
  refine (genNew_spec a0 len0 cap0 z0 (w0) oW).mono ?_
  rintro e1 v1 ⟨cb, rfl, o1, k1⟩
  have hT1 : ∃ i : Nat, (Value.int .i64 0 : Value) = .int .i64 (i : Int) ∧ i ≤ 4 ∧ Own v1 [Ch w cb (100 * i), old w] ∧ Calm w v1 := ⟨0, rfl, by omega, o1, k1⟩
  go_wp2
  go_loopw [8] (fun v wr => ∃ i : Nat, v = .int .i64 (i : Int) ∧ i ≤ 4 ∧ Own wr [Ch w cb (100 * i), old w] ∧ Calm w wr) (fun v _ => 4 - viN v)
  case atStart => exact hT1
  case round =>
    clear hT1 o1 k1 oW
    obtain ⟨i, rfl, hi, oR, kR⟩ := hrel
    by_cases hlt : i < 4
    · have dl : decide (i < 4) = true := decide_eq_true hlt
      go_wp2_with fail
      refine (next_spec w cb (100 * i) 5 _ _ (by omega) (by omega) (by omega) oR).mono ?_
      rintro e2 w2 ⟨x2, hx0, hx1, rfl, o2, k2⟩
      obtain ⟨k0, rfl⟩ : ∃ k : Nat, x2 = (k : Int) := ⟨x2.toNat, by omega⟩
      have hk0 : k0 < 5 := by omega
      have hS : LgRel w w2 cb (100 * i + 1) k0 (.int .i64 (k0 : Int)) (.string ⟨#[]⟩) w2 := ⟨k0, _, rfl, by omega, rfl, Nat.zero_le _, by rw [Nat.sub_self]; exact o2, Calm.refl _⟩
      have K2 := kR.trans k2
      clear oR kR o2 k2 hx0 hx1
      go_wp2
      go_loopw [10, 9] (fun vk vt wr => LgRel w w2 cb (100 * i + 1) k0 vk vt wr) (fun v _ _ => viN v)
      case atStart => exact hS
      case round =>
        clear hS
        obtain ⟨k, t, rfl, hk, rfl, ht, oR, kR⟩ := hrel
        by_cases hkp : 0 < k
        · obtain ⟨k, rfl⟩ : ∃ k', k = k' + 1 := ⟨k - 1, by omega⟩
          have dk : decide ((0 : Int) < ((k + 1 : Nat) : Int)) = true := decide_eq_true (by omega)
          obtain ⟨n, hn⟩ : ∃ n, k0 - (k + 1) = n := ⟨_, rfl⟩
          rw [hn] at ht oR
          have HN := Lib.hid hn
          have hn5 : n ≤ 5 := by omega
          clear hn
          go_wp2_with fail
          refine (line_spec (100 * i + 1 + 13 * n) (by omega) oR).mono ?_
          rintro e3 w3 ⟨s, hs, rfl, o3, k3⟩
          obtain ⟨s2, q2⟩ : ∃ x, s ++ (⟨#[10]⟩ : ByteArray) = x := ⟨_, rfl⟩
          have l1 : (⟨#[10]⟩ : ByteArray).size = 1 := rfl
          have hs2 : s2.size ≤ 301 := by rw [← q2, ByteArray.size_append]; omega
          obtain ⟨t2, q3⟩ : ∃ x, t ++ s2 = x := ⟨_, rfl⟩
          have ht2 : t2.size ≤ 301 * (n + 1) := by rw [← q3, ByteArray.size_append]; omega
          clear l1
          go_wp2
          go_roundw
          case rel =>
            have hkn : k0 - k = n + 1 := by have := HN.out; omega
            refine ⟨k, t2, by go_num, by omega, rfl, by rw [hkn]; exact ht2, ?_, kR.trans k3⟩
            rw [hkn]
            exact o3
          case measure => simp [viN]
        · have hk0' : k = 0 := by omega
          subst hk0'
          rw [Nat.sub_zero] at ht oR
          have dk : decide ((0 : Int) < ((0 : Nat) : Int)) = false := rfl
          have ht3 : t.size ≤ 1300 := by omega
          go_wp2_with fail
          refine (records_spec 4 (by omega) (100 * i + 1 + 13 * k0) (by omega) oR).mono ?_
          rintro e3 w3 ⟨l, aM, cM, hl4, rfl, o3, k3⟩
          have HLL := Lib.hid (show l.length ≤ 4 from hl4)
          have hEE := HE.out w3 [Ch w cb (100 * i + 1 + 13 * k0 + 1 + 8 * 4)] l aM l.length cM rfl (by omega) (o3.re [0, 2, 1])
          clear hl4
          generalize hfl : flat recC l = fl at *
          generalize hln : l.length = ln at *
          clear hfl hln
          go_wp2_with fail
          refine hEE.mono ?_
          rintro e4 w4 ⟨rfl, o4, k4⟩
          go_wp2_with fail
          refine (HD.out _ _ t (by omega) o4.swap).mono ?_
          rintro e5 w5 ⟨rfl, o5, k5⟩
          obtain ⟨tx, q1⟩ : ∃ x, t ++ (⟨#[120]⟩ : ByteArray) = x := ⟨_, rfl⟩
          obtain ⟨tn, q2⟩ : ∃ x, t ++ (⟨#[10]⟩ : ByteArray) = x := ⟨_, rfl⟩
          have l1 : (⟨#[120]⟩ : ByteArray).size = 1 := rfl
          have l2 : (⟨#[10]⟩ : ByteArray).size = 1 := rfl
          have hx1 : tx.size ≤ 1301 := by rw [← q1, ByteArray.size_append]; omega
          have hx2 : tn.size ≤ 1301 := by rw [← q2, ByteArray.size_append]; omega
          clear l1 l2 hEE
          go_wp2_with fail
          refine (HD.out _ _ tx (by omega) o5).mono ?_
          rintro e6 w6 ⟨rfl, o6, k6⟩
          go_wp2_with fail
          refine (HD.out _ _ tn (by omega) o6).mono ?_
          rintro e7 w7 ⟨rfl, o7, k7⟩
          go_wp2
          go_roundw
          case rel => exact ⟨i + 1, by go_num, by omega, Ch.upTo (N := 100 * i + 1 + 13 * k0 + 1 + 8 * 4) (M := 100 * (i + 1)) (by omega) ((o7.re [1, 2, 0]).drop), K2.trans (kR.trans (k3.trans (k4.trans (k5.trans (k6.trans k7)))))⟩
          case measure => simp [viN]; omega
    · have dl : decide (i < 4) = false := decide_eq_false hlt
      have oQ := oR.swap
      by_cases hb1 : 100 < len1
      · have db1 : decide (100 < len1) = true := decide_eq_true hb1
        go_wp2_with fail
        refine (HA.out _ _ oQ).mono ?_
        rintro e4 w4 ⟨rfl, o4, k4⟩
        go_wp2
        go_ret
        exact ⟨rfl, o4.below (kR.trans k4)⟩
      have db1 : decide (100 < len1) = false := decide_eq_false hb1
      by_cases hb2 : 500 < p.size
      · have db2 : decide (500 < p.size) = true := decide_eq_true hb2
        go_wp2_with fail
        refine (HA.out _ _ oQ).mono ?_
        rintro e4 w4 ⟨rfl, o4, k4⟩
        go_wp2
        go_ret
        exact ⟨rfl, o4.below (kR.trans k4)⟩
      have db2 : decide (500 < p.size) = false := decide_eq_false hb2
      obtain ⟨pn, q2⟩ : ∃ x, p ++ (⟨#[10]⟩ : ByteArray) = x := ⟨_, rfl⟩
      have l2 : (⟨#[10]⟩ : ByteArray).size = 1 := rfl
      have hx2 : pn.size ≤ 501 := by rw [← q2, ByteArray.size_append]; omega
      clear l2
      go_wp2_with fail
      refine (HF.out (by omega) _ _ oQ).mono ?_
      rintro e4 w4 ⟨rfl, o4, k4⟩
      go_wp2_with fail
      refine (HD.out _ _ p (by omega) o4).mono ?_
      rintro e5 w5 ⟨rfl, o5, k5⟩
      go_wp2_with fail
      refine (HD.out _ _ pn (by omega) o5).mono ?_
      rintro e6 w6 ⟨rfl, o6, k6⟩
      go_wp2_with fail
      refine (HA.out _ _ o6).mono ?_
      rintro e7 w7 ⟨rfl, o7, k7⟩
      go_wp2
      go_ret
      exact ⟨rfl, o7.below (kR.trans (k4.trans (k5.trans (k6.trans k7))))⟩
end Go.Proofs.YtlccalkikjfimaaGreatDoor
