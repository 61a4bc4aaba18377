/- Names: the reference's decoder (ref7.runes). -/
import Derived.Test.YtbldanhjbnpdiaaGreatDoorLabW
import Derived.Test.YtbldanhjbnpdiaaGreatDoorApp
import Derived.Handy
import Derived.Deep.DeepCutAuto
import Derived.Deep.CutBlock
namespace Go.Proofs.YtbldanhjbnpdiaaGreatDoor
open Go.RowKit
open SP
section
variable {w w' : World} {R : List SP}

theorem Tryz.elemI : ElemT Tryz.prog 22 3 1 8 := ElemT.mk' Tryz.underlying22 (z := .int .i64 0) (by kernel_rfl) (by kernel_rfl) (by omega)
def intV (n : Nat) : Value := .int .i64 (n : Int)
def ints (l : List Nat) : List Value := l.map intV
def RunesPost (l : List UInt8) (R : List SP) (w : World) (e : Ending) (w' : World) : Prop :=
  if Lib.validD l = true then ∃ a c, e = .returned (.tuple #[.slice a (runesL l).length c, .bool true]) ∧ Own w' (slc 3 1 a (runesL l).length c (ints (runesL l)) :: R) ∧ Calm w w'
  else e = .returned (.tuple #[.slice none 0 0, .bool false]) ∧ Own w' R ∧ Calm w w'
def RunRel (s : ByteArray) (R : List SP) (w : World) (v4 v5 : Value) (wr : World) : Prop :=
  ∃ (pos n c : Nat) (a : Option Addr) (xs : List Nat), v4 = .slice a n c ∧ v5 = .int .i64 (pos : Int) ∧ pos ≤ s.size ∧ n ≤ pos ∧ xs ++ runesL (s.data.toList.drop pos) = runesL s.data.toList ∧
    Lib.validD (s.data.toList.drop pos) = Lib.validD s.data.toList ∧ Own wr (slc 3 1 a n c (ints xs) :: R) ∧ Calm w wr

def byteN (s : ByteArray) (k : Nat) : Nat := (s.data.toList.getD k 0).toNat
theorem byteN_at (s : ByteArray) (k : Nat) (h : k < s.size) : (s[k]'h).toNat = byteN s k := by
  unfold byteN
  rw [Lib.getD_get!']
  simp [ByteArray.get!, getElem!_pos, h]
  rfl
theorem byteN_lt (s : ByteArray) (k : Nat) : byteN s k < 256 := (s.data.toList.getD k 0).toNat_lt
def refAt (s : ByteArray) (pos : Nat) : Option (Nat × Nat) := refDec (s.size - pos) (byteN s pos) (byteN s (pos + 1)) (byteN s (pos + 2)) (byteN s (pos + 3))
theorem refAt_eq (s : ByteArray) (pos : Nat) (hp : pos < s.size) : refAt s pos = if (Utf8.decode s pos).1 = 65533 ∧ (Utf8.decode s pos).2 = 1 then none else some (Utf8.decode s pos) := by
  have hl : s.data.toList.length = s.size := (Lib.size_eq s).symm
  unfold refAt
  rw [refDec_eq _ _ _ _ _ (by omega) (byteN_lt _ _) (byteN_lt _ _) (byteN_lt _ _) (byteN_lt _ _), Lib.decode_N, hl]
  rfl
theorem drop_ne (s : ByteArray) (pos : Nat) (hp : pos < s.size) : s.data.toList.drop pos ≠ [] := by
  have hl : s.data.toList.length = s.size := (Lib.size_eq s).symm
  intro e; have := congrArg List.length e; rw [List.length_drop] at this; simp only [List.length_nil] at this; omega
theorem refAt_none {s : ByteArray} {pos : Nat} (hp : pos < s.size) (h : refAt s pos = none) : Lib.validD (s.data.toList.drop pos) = false := by
  rw [refAt_eq s pos hp] at h
  rw [Lib.validD_step _ (drop_ne s pos hp), Lib.decodeL_drop]
  split at h
  · rename_i h1; rw [if_pos h1]
  · cases h
theorem refAt_some {s : ByteArray} {pos r n : Nat} (hp : pos < s.size) (h : refAt s pos = some (r, n)) :
    r ≤ 1114111 ∧ 1 ≤ n ∧ pos + n ≤ s.size ∧ Lib.validD (s.data.toList.drop pos) = Lib.validD (s.data.toList.drop (pos + n)) ∧ runesL (s.data.toList.drop pos) = r :: runesL (s.data.toList.drop (pos + n)) := by
  have hl : s.data.toList.length = s.size := (Lib.size_eq s).symm
  rw [refAt_eq s pos hp] at h
  split at h
  · cases h
  · rename_i h1
    have h2 := Option.some.inj h
    have h3 := Lib.decodeL_le _ (drop_ne s pos hp)
    have h4 := decodeL_pos (s.data.toList.drop pos)
    have h5 := decode_le_max s pos
    rw [Lib.decodeL_drop] at h3 h4
    rw [List.length_drop, h2] at h3
    rw [h2] at h4 h5 h1
    refine ⟨h5, h4, ?_, ?_, ?_⟩
    · dsimp only at h3; omega
    · rw [Lib.validD_step _ (drop_ne s pos hp), Lib.decodeL_drop, h2, if_neg h1, List.drop_drop]
    · rw [runesL_at s pos hp, h2]

def cls (b0 n least r0 : Nat) : Prop :=
  (b0 < 128 ∧ n = 1 ∧ least = 0 ∧ r0 = b0) ∨ (194 ≤ b0 ∧ b0 < 224 ∧ n = 2 ∧ least = 128 ∧ b0 - 192 = r0) ∨ (224 ≤ b0 ∧ b0 < 240 ∧ n = 3 ∧ least = 2048 ∧ b0 - 224 = r0) ∨ (240 ≤ b0 ∧ b0 < 245 ∧ n = 4 ∧ least = 65536 ∧ b0 - 240 = r0)
def RunMid1 (b0 : Nat) (R : List SP) (w : World) (v6 v7 v8 : Value) (wc : World) : Prop :=
  ∃ n least r0 : Nat, v6 = .int .i64 (n : Int) ∧ v7 = .int .i64 (least : Int) ∧ v8 = .int .i64 (r0 : Int) ∧ cls b0 n least r0 ∧ Own wc R ∧ Calm w wc
theorem refAt_bad {s : ByteArray} {pos : Nat} (h : (128 ≤ byteN s pos ∧ byteN s pos < 194) ∨ 245 ≤ byteN s pos) : refAt s pos = none := by
  unfold refAt refDec
  rw [if_neg (by omega), if_neg (by omega), if_neg (by omega), if_neg (by omega)]
theorem runes_fail {s : ByteArray} {pos : Nat} (hp : pos < s.size) (hv : Lib.validD (s.data.toList.drop pos) = Lib.validD s.data.toList) (h : refAt s pos = none) (o : Own w' R) (k : Calm w w') :
    RunesPost s.data.toList R w (.returned (.tuple #[.slice none 0 0, .bool false])) w' := by
  unfold RunesPost
  rw [← hv, refAt_none hp h, if_neg (by decide)]
  exact ⟨rfl, o, k⟩

theorem run_next {s : ByteArray} {pos n r m c' : Nat} {a' : Option Addr} {xs : List Nat} {B : SP} {w1 : World} {v5 : Value} (hp : pos < s.size) (h : refAt s pos = some (r, m)) (hx : xs ++ runesL (s.data.toList.drop pos) = runesL s.data.toList)
    (hv : Lib.validD (s.data.toList.drop pos) = Lib.validD s.data.toList) (hn : n ≤ pos) (h5 : v5 = .int .i64 ((pos + m : Nat) : Int)) (o : Own w1 (slc 3 1 a' (n + 1) c' (ints xs ++ [.int .i64 (r : Int)]) :: B :: R)) (k : Calm w w1) :
    RunRel s R w (.slice a' (n + 1) c') v5 w1 := by
  obtain ⟨h1, h2, h3, h4, h6⟩ := refAt_some hp h
  refine ⟨pos + m, n + 1, c', a', xs ++ [r], rfl, h5, h3, by omega, ?_, h4 ▸ hv, ?_, k⟩
  · rw [h6] at hx; rw [← hx, List.append_assoc]; rfl
  · have e : ints (xs ++ [r]) = ints xs ++ [.int .i64 (r : Int)] := by unfold ints; rw [List.map_append]; rfl
    rw [e]; exact (o.up 1).drop

set_option maxHeartbeats 3200000 in
set_option maxRecDepth 100000 in
theorem runes_spec (s : ByteArray) (hs : s.size ≤ 2000000) (o : Own w R) : Calls Tryz.prog 43 #[.string s] w (RunesPost s.data.toList R w) := by
  have hl : s.data.toList.length = s.size := (Lib.size_eq s).symm
  go_enter Tryz.func43, Tryz.ntmps43
  go_wp2
  go_loopw [4, 5] (fun v4 v5 wr => RunRel s R w v4 v5 wr) (fun _ v _ => s.size - (intOf v).toNat)
  case atStart => exact ⟨0, 0, 0, none, [], rfl, rfl, by omega, by omega, rfl, rfl, o.slc_nil (e := 3) (size := 1), Calm.refl w⟩
  case round =>
    obtain ⟨pos, n, c, a, xs, rfl, rfl, hp1, hn1, hx, hv, oR, kR⟩ := hrel
    by_cases hp : pos < s.size
    · have hb0 := byteN_at s pos hp
      have hlt0 := byteN_lt s pos
      obtain ⟨b0, e0⟩ : ∃ b0, byteN s pos = b0 := ⟨_, rfl⟩
      rw [e0] at hb0 hlt0
      go_upto_block 2 with fail
      go_quiet (fail)
      go_upto_block 2 with fail
      go_cut [6, 7, 8] (fun v6 v7 v8 wc => RunMid1 b0 (slc 3 1 a n c (ints xs) :: R) w v6 v7 v8 wc)
      case first =>
        by_cases c0 : b0 < 128
        · have d0 : decide ((b0 : Int) < 128) = true := decide_eq_true (by omega)
          go_wp2
          go_meet
          exact ⟨1, 0, b0, rfl, rfl, rfl, .inl ⟨c0, rfl, rfl, rfl⟩, oR.drewN _, kR.dn _⟩
        have d0 : decide ((b0 : Int) < 128) = false := decide_eq_false (by omega)
        by_cases c1 : 194 ≤ b0 ∧ b0 < 224
        · have d1 : decide (194 ≤ (b0 : Int)) = true := decide_eq_true (by omega)
          have d2 : decide ((b0 : Int) < 224) = true := decide_eq_true (by omega)
          have hw1 : IntKind.i64.wrap ((b0 : Int) - 192) = ((b0 - 192 : Nat) : Int) := by rw [IntKind.wrap_i64]; omega
          go_wp2
          go_meet
          exact ⟨2, 128, b0 - 192, rfl, rfl, rfl, .inr (.inl ⟨c1.1, c1.2, rfl, rfl, rfl⟩), oR.drewN _, kR.dn _⟩
        by_cases c2 : 224 ≤ b0 ∧ b0 < 240
        · have d1 : decide (194 ≤ (b0 : Int)) = true := decide_eq_true (by omega)
          have d2 : decide ((b0 : Int) < 224) = false := decide_eq_false (by omega)
          have d3 : decide (224 ≤ (b0 : Int)) = true := decide_eq_true (by omega)
          have d4 : decide ((b0 : Int) < 240) = true := decide_eq_true (by omega)
          have hw1 : IntKind.i64.wrap ((b0 : Int) - 224) = ((b0 - 224 : Nat) : Int) := by rw [IntKind.wrap_i64]; omega
          go_wp2
          go_meet
          exact ⟨3, 2048, b0 - 224, rfl, rfl, rfl, .inr (.inr (.inl ⟨c2.1, c2.2, rfl, rfl, rfl⟩)), oR.drewN _, kR.dn _⟩
        by_cases c3 : 240 ≤ b0 ∧ b0 < 245
        · have d1 : decide (194 ≤ (b0 : Int)) = true := decide_eq_true (by omega)
          have d2 : decide ((b0 : Int) < 224) = false := decide_eq_false (by omega)
          have d3 : decide (224 ≤ (b0 : Int)) = true := decide_eq_true (by omega)
          have d4 : decide ((b0 : Int) < 240) = false := decide_eq_false (by omega)
          have d5 : decide (240 ≤ (b0 : Int)) = true := decide_eq_true (by omega)
          have d6 : decide ((b0 : Int) < 245) = true := decide_eq_true (by omega)
          have hw1 : IntKind.i64.wrap ((b0 : Int) - 240) = ((b0 - 240 : Nat) : Int) := by rw [IntKind.wrap_i64]; omega
          go_wp2
          go_meet
          exact ⟨4, 65536, b0 - 240, rfl, rfl, rfl, .inr (.inr (.inr ⟨c3.1, c3.2, rfl, rfl, rfl⟩)), oR.drewN _, kR.dn _⟩
        have hbad := refAt_bad (s := s) (pos := pos) (by rw [e0]; omega)
        by_cases c4 : 194 ≤ b0
        · have d1 : decide (194 ≤ (b0 : Int)) = true := decide_eq_true (by omega)
          have d2 : decide ((b0 : Int) < 224) = false := decide_eq_false (by omega)
          have d3 : decide (224 ≤ (b0 : Int)) = true := decide_eq_true (by omega)
          have d4 : decide ((b0 : Int) < 240) = false := decide_eq_false (by omega)
          have d5 : decide (240 ≤ (b0 : Int)) = true := decide_eq_true (by omega)
          have d6 : decide ((b0 : Int) < 245) = false := decide_eq_false (by omega)
          go_wp2
          go_ret2
          exact runes_fail hp hv hbad (oR.drop.drewN _) (kR.dn _)
        · have d1 : decide (194 ≤ (b0 : Int)) = false := decide_eq_false (by omega)
          have d3 : decide (224 ≤ (b0 : Int)) = false := decide_eq_false (by omega)
          have d5 : decide (240 ≤ (b0 : Int)) = false := decide_eq_false (by omega)
          go_wp2
          go_ret2
          exact runes_fail hp hv hbad (oR.drop.drewN _) (kR.dn _)
      case rest =>
        obtain ⟨m, least, r0, rfl, rfl, rfl, hcls, oC, kC⟩ := hcut
        rcases hcls with ⟨z0, rfl, rfl, rfl⟩ | ⟨z0, z1, rfl, rfl, hr0⟩ | ⟨z0, z1, rfl, rfl, hr0⟩ | ⟨z0, z1, rfl, rfl, hr0⟩
        · have hR : refAt s pos = some (r0, 1) := by
            unfold refAt refDec
            rw [e0, if_pos (by omega)]
          have d0 : decide ((s.size : Int) < (pos : Int) + 1) = false := decide_eq_false (by omega)
          have d1 : decide ((r0 : Int) < 0) = false := decide_eq_false (by omega)
          have d2 : decide (1114111 < (r0 : Int)) = false := decide_eq_false (by omega)
          have d3 : decide (55296 ≤ (r0 : Int)) = false := decide_eq_false (by omega)
          go_wp2
          refine wp_loop_rounds 1 ?_
          rw [rounds_succ]
          have hdn := oC
          have oN := (oC.alloc (.cells #[.int .i64 (r0 : Int)] 3)).up 1
          go_wp2_with (at_builtin; refine wpList_append_slc rfl _ _ rfl Tryz.elemI rfl oN ⟨wc.heap.size, 0, none⟩ 1 1 [.int .i64 (r0 : Int)] rfl rfl ?c1 ?c2 ?c3 ?c4 ?c5)
          case c1 => exact Own.news (T := 3) (oC.alloc _)
          case c2 => intro u hu; simp at hu; rcases hu with rfl; rfl
          case c3 => unfold maxLen; omega
          case c4 => omega
          case c5 =>
            intro a' c' w1 o2 k2
            go_wp2
            go_roundw
            case rel => exact run_next hp hR hx hv hn1 (by go_num) o2 (kC.trans k2.al)
            case measure => simp [intOf]; omega
        · have hw0 : b0 - 192 = r0 := hr0
          by_cases hsz : s.size < pos + 2
          · have hR : refAt s pos = none := by
              unfold refAt refDec
              rw [e0, if_neg (by omega), if_pos (by omega), if_pos (by omega)]
            have d0 : decide ((s.size : Int) < (pos : Int) + 2) = true := decide_eq_true (by omega)
            go_wp2
            go_ret2
            exact runes_fail hp hv hR oC.drop kC
          have d0 : decide ((s.size : Int) < (pos : Int) + 2) = false := decide_eq_false (by omega)
          have hb1 := byteN_at s (pos + 1) (by omega)
          have hlt1 := byteN_lt s (pos + 1)
          obtain ⟨b1, e1⟩ : ∃ b1, byteN s (pos + 1) = b1 := ⟨_, rfl⟩
          rw [e1] at hb1 hlt1
          by_cases c1 : ¬ (128 ≤ b1 ∧ b1 < 192)
          · have hR : refAt s pos = none := by
              unfold refAt refDec
              rw [e0, e1, if_neg (by omega), if_pos (by omega), if_pos (by omega)]
            go_wp2
            refine wp_loop_rounds 1 ?_
            rw [rounds_succ]
            go_wp2
            all_goals go_ret2
            all_goals exact runes_fail hp hv hR oC.drop kC
          have f1a : decide ((b1 : Int) < 128) = false := decide_eq_false (by omega)
          have f1b : decide (192 ≤ (b1 : Int)) = false := decide_eq_false (by omega)
          obtain ⟨r1, hr1⟩ : ∃ r, r0 * 64 + b1 - 128 = r := ⟨_, rfl⟩
          have hA1 : IntKind.i64.wrap ((r0 : Int) * 64) = (r0 : Int) * 64 := by rw [IntKind.wrap_i64]; omega
          have hB1 : IntKind.i64.wrap ((r0 : Int) * 64 + (b1 : Int)) = (r0 : Int) * 64 + (b1 : Int) := by rw [IntKind.wrap_i64]; omega
          have hC1 : IntKind.i64.wrap ((r0 : Int) * 64 + (b1 : Int) - 128) = (r1 : Int) := by rw [IntKind.wrap_i64]; omega
          have hI1 : (r0 : Int) * 64 + (b1 : Int) - 128 = (r1 : Int) := by omega
          have hR : refAt s pos = some (r1, 2) := by
              unfold refAt refDec
              rw [e0, e1, if_neg (by omega), if_pos (by omega), if_neg (by omega)]
              subst hw0; subst hr1; rfl
          have g1 : decide ((r1 : Int) < 128) = false := decide_eq_false (by omega)
          have g2 : decide (1114111 < (r1 : Int)) = false := decide_eq_false (by omega)
          have g3 : decide (55296 ≤ (r1 : Int)) = false := decide_eq_false (by omega)
          go_wp2
          refine wp_loop_rounds 2 ?_
          rw [rounds_succ]
          go_wp2
          rw [rounds_succ]
          have hdn := oC
          have oN := (oC.alloc (.cells #[.int .i64 (r1 : Int)] 3)).up 1
          go_wp2_with (at_builtin; refine wpList_append_slc rfl _ _ rfl Tryz.elemI rfl oN ⟨wc.heap.size, 0, none⟩ 1 1 [.int .i64 (r1 : Int)] rfl rfl ?c1 ?c2 ?c3 ?c4 ?c5)
          case c1 => exact Own.news (T := 3) (oC.alloc _)
          case c2 => intro u hu; simp at hu; rcases hu with rfl; rfl
          case c3 => unfold maxLen; omega
          case c4 => omega
          case c5 =>
            intro a' c' w1 o2 k2
            go_wp2
            go_roundw
            case rel => exact run_next hp hR hx hv hn1 (by go_num) o2 (kC.trans k2.al)
            case measure => simp [intOf]; omega
        · have hw0 : b0 - 224 = r0 := hr0
          by_cases hsz : s.size < pos + 3
          · have hR : refAt s pos = none := by
              unfold refAt refDec
              rw [e0, if_neg (by omega), if_neg (by omega), if_pos (by omega), if_pos (by omega)]
            have d0 : decide ((s.size : Int) < (pos : Int) + 3) = true := decide_eq_true (by omega)
            go_wp2
            go_ret2
            exact runes_fail hp hv hR oC.drop kC
          have d0 : decide ((s.size : Int) < (pos : Int) + 3) = false := decide_eq_false (by omega)
          have hb1 := byteN_at s (pos + 1) (by omega)
          have hlt1 := byteN_lt s (pos + 1)
          obtain ⟨b1, e1⟩ : ∃ b1, byteN s (pos + 1) = b1 := ⟨_, rfl⟩
          rw [e1] at hb1 hlt1
          have hb2 := byteN_at s (pos + 2) (by omega)
          have hlt2 := byteN_lt s (pos + 2)
          obtain ⟨b2, e2⟩ : ∃ b2, byteN s (pos + 2) = b2 := ⟨_, rfl⟩
          rw [e2] at hb2 hlt2
          by_cases c1 : ¬ (128 ≤ b1 ∧ b1 < 192)
          · have hR : refAt s pos = none := by
              unfold refAt refDec
              rw [e0, e1, e2, if_neg (by omega), if_neg (by omega), if_pos (by omega), if_pos (by omega)]
            go_wp2
            refine wp_loop_rounds 1 ?_
            rw [rounds_succ]
            go_wp2
            all_goals go_ret2
            all_goals exact runes_fail hp hv hR oC.drop kC
          have f1a : decide ((b1 : Int) < 128) = false := decide_eq_false (by omega)
          have f1b : decide (192 ≤ (b1 : Int)) = false := decide_eq_false (by omega)
          obtain ⟨r1, hr1⟩ : ∃ r, r0 * 64 + b1 - 128 = r := ⟨_, rfl⟩
          have hA1 : IntKind.i64.wrap ((r0 : Int) * 64) = (r0 : Int) * 64 := by rw [IntKind.wrap_i64]; omega
          have hB1 : IntKind.i64.wrap ((r0 : Int) * 64 + (b1 : Int)) = (r0 : Int) * 64 + (b1 : Int) := by rw [IntKind.wrap_i64]; omega
          have hC1 : IntKind.i64.wrap ((r0 : Int) * 64 + (b1 : Int) - 128) = (r1 : Int) := by rw [IntKind.wrap_i64]; omega
          have hI1 : (r0 : Int) * 64 + (b1 : Int) - 128 = (r1 : Int) := by omega
          by_cases c2 : ¬ (128 ≤ b2 ∧ b2 < 192)
          · have hR : refAt s pos = none := by
              unfold refAt refDec
              rw [e0, e1, e2, if_neg (by omega), if_neg (by omega), if_pos (by omega), if_pos (by omega)]
            go_wp2
            refine wp_loop_rounds 2 ?_
            rw [rounds_succ]
            go_wp2
            rw [rounds_succ]
            go_wp2
            all_goals go_ret2
            all_goals exact runes_fail hp hv hR oC.drop kC
          have f2a : decide ((b2 : Int) < 128) = false := decide_eq_false (by omega)
          have f2b : decide (192 ≤ (b2 : Int)) = false := decide_eq_false (by omega)
          obtain ⟨r2, hr2⟩ : ∃ r, r1 * 64 + b2 - 128 = r := ⟨_, rfl⟩
          have hA2 : IntKind.i64.wrap ((r1 : Int) * 64) = (r1 : Int) * 64 := by rw [IntKind.wrap_i64]; omega
          have hB2 : IntKind.i64.wrap ((r1 : Int) * 64 + (b2 : Int)) = (r1 : Int) * 64 + (b2 : Int) := by rw [IntKind.wrap_i64]; omega
          have hC2 : IntKind.i64.wrap ((r1 : Int) * 64 + (b2 : Int) - 128) = (r2 : Int) := by rw [IntKind.wrap_i64]; omega
          have hI2 : (r1 : Int) * 64 + (b2 : Int) - 128 = (r2 : Int) := by omega
          by_cases hbad : r2 < 2048 ∨ (55296 ≤ r2 ∧ r2 < 57344)
          · have hR : refAt s pos = none := by
              unfold refAt refDec
              rw [e0, e1, e2, if_neg (by omega), if_neg (by omega), if_pos (by omega), if_neg (by omega), if_pos (by omega)]
            go_wp2
            refine wp_loop_rounds 3 ?_
            rw [rounds_succ]
            go_wp2
            rw [rounds_succ]
            go_wp2
            rw [rounds_succ]
            go_wp2
            all_goals go_ret2
            all_goals exact runes_fail hp hv hR oC.drop kC
          have hR : refAt s pos = some (r2, 3) := by
              unfold refAt refDec
              rw [e0, e1, e2, if_neg (by omega), if_neg (by omega), if_pos (by omega), if_neg (by omega), if_neg (by omega)]
              subst hw0; subst hr1; subst hr2; rfl
          have g1 : decide ((r2 : Int) < 2048) = false := decide_eq_false (by omega)
          have g2 : decide (1114111 < (r2 : Int)) = false := decide_eq_false (by omega)
          by_cases hsur : r2 < 55296
          · have g3 : decide (55296 ≤ (r2 : Int)) = false := decide_eq_false (by omega)
            go_wp2
            refine wp_loop_rounds 3 ?_
            rw [rounds_succ]
            go_wp2
            rw [rounds_succ]
            go_wp2
            rw [rounds_succ]
            have hdn := oC
            have oN := (oC.alloc (.cells #[.int .i64 (r2 : Int)] 3)).up 1
            go_wp2_with (at_builtin; refine wpList_append_slc rfl _ _ rfl Tryz.elemI rfl oN ⟨wc.heap.size, 0, none⟩ 1 1 [.int .i64 (r2 : Int)] rfl rfl ?c1 ?c2 ?c3 ?c4 ?c5)
            case c1 => exact Own.news (T := 3) (oC.alloc _)
            case c2 => intro u hu; simp at hu; rcases hu with rfl; rfl
            case c3 => unfold maxLen; omega
            case c4 => omega
            case c5 =>
              intro a' c' w1 o2 k2
              go_wp2
              go_roundw
              case rel => exact run_next hp hR hx hv hn1 (by go_num) o2 (kC.trans k2.al)
              case measure => simp [intOf]; omega
          · go_wp2
            refine wp_loop_rounds 3 ?_
            rw [rounds_succ]
            go_wp2
            rw [rounds_succ]
            go_wp2
            rw [rounds_succ]
            have g3 : decide (55296 ≤ (r2 : Int)) = true := decide_eq_true (by omega)
            have g4 : decide ((r2 : Int) < 57344) = false := decide_eq_false (by omega)
            have hdn := oC
            have oN := (oC.alloc (.cells #[.int .i64 (r2 : Int)] 3)).up 1
            go_wp2_with (at_builtin; refine wpList_append_slc rfl _ _ rfl Tryz.elemI rfl oN ⟨wc.heap.size, 0, none⟩ 1 1 [.int .i64 (r2 : Int)] rfl rfl ?c1 ?c2 ?c3 ?c4 ?c5)
            case c1 => exact Own.news (T := 3) (oC.alloc _)
            case c2 => intro u hu; simp at hu; rcases hu with rfl; rfl
            case c3 => unfold maxLen; omega
            case c4 => omega
            case c5 =>
              intro a' c' w1 o2 k2
              go_wp2
              go_roundw
              case rel => exact run_next hp hR hx hv hn1 (by go_num) o2 (kC.trans k2.al)
              case measure => simp [intOf]; omega
        · have hw0 : b0 - 240 = r0 := hr0
          by_cases hsz : s.size < pos + 4
          · have hR : refAt s pos = none := by
              unfold refAt refDec
              rw [e0, if_neg (by omega), if_neg (by omega), if_neg (by omega), if_pos (by omega), if_pos (by omega)]
            have d0 : decide ((s.size : Int) < (pos : Int) + 4) = true := decide_eq_true (by omega)
            go_wp2
            go_ret2
            exact runes_fail hp hv hR oC.drop kC
          have d0 : decide ((s.size : Int) < (pos : Int) + 4) = false := decide_eq_false (by omega)
          have hb1 := byteN_at s (pos + 1) (by omega)
          have hlt1 := byteN_lt s (pos + 1)
          obtain ⟨b1, e1⟩ : ∃ b1, byteN s (pos + 1) = b1 := ⟨_, rfl⟩
          rw [e1] at hb1 hlt1
          have hb2 := byteN_at s (pos + 2) (by omega)
          have hlt2 := byteN_lt s (pos + 2)
          obtain ⟨b2, e2⟩ : ∃ b2, byteN s (pos + 2) = b2 := ⟨_, rfl⟩
          rw [e2] at hb2 hlt2
          have hb3 := byteN_at s (pos + 3) (by omega)
          have hlt3 := byteN_lt s (pos + 3)
          obtain ⟨b3, e3⟩ : ∃ b3, byteN s (pos + 3) = b3 := ⟨_, rfl⟩
          rw [e3] at hb3 hlt3
          by_cases c1 : ¬ (128 ≤ b1 ∧ b1 < 192)
          · have hR : refAt s pos = none := by
              unfold refAt refDec
              rw [e0, e1, e2, e3, if_neg (by omega), if_neg (by omega), if_neg (by omega), if_pos (by omega), if_pos (by omega)]
            go_wp2
            refine wp_loop_rounds 1 ?_
            rw [rounds_succ]
            go_wp2
            all_goals go_ret2
            all_goals exact runes_fail hp hv hR oC.drop kC
          have f1a : decide ((b1 : Int) < 128) = false := decide_eq_false (by omega)
          have f1b : decide (192 ≤ (b1 : Int)) = false := decide_eq_false (by omega)
          obtain ⟨r1, hr1⟩ : ∃ r, r0 * 64 + b1 - 128 = r := ⟨_, rfl⟩
          have hA1 : IntKind.i64.wrap ((r0 : Int) * 64) = (r0 : Int) * 64 := by rw [IntKind.wrap_i64]; omega
          have hB1 : IntKind.i64.wrap ((r0 : Int) * 64 + (b1 : Int)) = (r0 : Int) * 64 + (b1 : Int) := by rw [IntKind.wrap_i64]; omega
          have hC1 : IntKind.i64.wrap ((r0 : Int) * 64 + (b1 : Int) - 128) = (r1 : Int) := by rw [IntKind.wrap_i64]; omega
          have hI1 : (r0 : Int) * 64 + (b1 : Int) - 128 = (r1 : Int) := by omega
          by_cases c2 : ¬ (128 ≤ b2 ∧ b2 < 192)
          · have hR : refAt s pos = none := by
              unfold refAt refDec
              rw [e0, e1, e2, e3, if_neg (by omega), if_neg (by omega), if_neg (by omega), if_pos (by omega), if_pos (by omega)]
            go_wp2
            refine wp_loop_rounds 2 ?_
            rw [rounds_succ]
            go_wp2
            rw [rounds_succ]
            go_wp2
            all_goals go_ret2
            all_goals exact runes_fail hp hv hR oC.drop kC
          have f2a : decide ((b2 : Int) < 128) = false := decide_eq_false (by omega)
          have f2b : decide (192 ≤ (b2 : Int)) = false := decide_eq_false (by omega)
          obtain ⟨r2, hr2⟩ : ∃ r, r1 * 64 + b2 - 128 = r := ⟨_, rfl⟩
          have hA2 : IntKind.i64.wrap ((r1 : Int) * 64) = (r1 : Int) * 64 := by rw [IntKind.wrap_i64]; omega
          have hB2 : IntKind.i64.wrap ((r1 : Int) * 64 + (b2 : Int)) = (r1 : Int) * 64 + (b2 : Int) := by rw [IntKind.wrap_i64]; omega
          have hC2 : IntKind.i64.wrap ((r1 : Int) * 64 + (b2 : Int) - 128) = (r2 : Int) := by rw [IntKind.wrap_i64]; omega
          have hI2 : (r1 : Int) * 64 + (b2 : Int) - 128 = (r2 : Int) := by omega
          by_cases c3 : ¬ (128 ≤ b3 ∧ b3 < 192)
          · have hR : refAt s pos = none := by
              unfold refAt refDec
              rw [e0, e1, e2, e3, if_neg (by omega), if_neg (by omega), if_neg (by omega), if_pos (by omega), if_pos (by omega)]
            go_wp2
            refine wp_loop_rounds 3 ?_
            rw [rounds_succ]
            go_wp2
            rw [rounds_succ]
            go_wp2
            rw [rounds_succ]
            go_wp2
            all_goals go_ret2
            all_goals exact runes_fail hp hv hR oC.drop kC
          have f3a : decide ((b3 : Int) < 128) = false := decide_eq_false (by omega)
          have f3b : decide (192 ≤ (b3 : Int)) = false := decide_eq_false (by omega)
          obtain ⟨r3, hr3⟩ : ∃ r, r2 * 64 + b3 - 128 = r := ⟨_, rfl⟩
          have hA3 : IntKind.i64.wrap ((r2 : Int) * 64) = (r2 : Int) * 64 := by rw [IntKind.wrap_i64]; omega
          have hB3 : IntKind.i64.wrap ((r2 : Int) * 64 + (b3 : Int)) = (r2 : Int) * 64 + (b3 : Int) := by rw [IntKind.wrap_i64]; omega
          have hC3 : IntKind.i64.wrap ((r2 : Int) * 64 + (b3 : Int) - 128) = (r3 : Int) := by rw [IntKind.wrap_i64]; omega
          have hI3 : (r2 : Int) * 64 + (b3 : Int) - 128 = (r3 : Int) := by omega
          by_cases hbad : r3 < 65536 ∨ 1114111 < r3
          · have hR : refAt s pos = none := by
              unfold refAt refDec
              rw [e0, e1, e2, e3, if_neg (by omega), if_neg (by omega), if_neg (by omega), if_pos (by omega), if_neg (by omega), if_pos (by omega)]
            go_wp2
            refine wp_loop_rounds 4 ?_
            rw [rounds_succ]
            go_wp2
            rw [rounds_succ]
            go_wp2
            rw [rounds_succ]
            go_wp2
            rw [rounds_succ]
            go_wp2
            all_goals go_ret2
            all_goals exact runes_fail hp hv hR oC.drop kC
          have hR : refAt s pos = some (r3, 4) := by
              unfold refAt refDec
              rw [e0, e1, e2, e3, if_neg (by omega), if_neg (by omega), if_neg (by omega), if_pos (by omega), if_neg (by omega), if_neg (by omega)]
              subst hw0; subst hr1; subst hr2; subst hr3; rfl
          have HR3 := Lib.hid (show 65536 ≤ r3 ∧ r3 ≤ 1114111 by omega)
          clear hbad
          go_wp2
          refine wp_loop_rounds 4 ?_
          rw [rounds_succ]
          go_wp2
          rw [rounds_succ]
          go_wp2
          rw [rounds_succ]
          go_wp2
          rw [rounds_succ]
          have hr3b := HR3.out
          have g1 : decide ((r3 : Int) < 65536) = false := decide_eq_false (by omega)
          have g2 : decide (1114111 < (r3 : Int)) = false := decide_eq_false (by omega)
          have g3 : decide (55296 ≤ (r3 : Int)) = true := decide_eq_true (by omega)
          have g4 : decide ((r3 : Int) < 57344) = false := decide_eq_false (by omega)
          have hdn := oC
          have oN := (oC.alloc (.cells #[.int .i64 (r3 : Int)] 3)).up 1
          go_wp2_with (at_builtin; refine wpList_append_slc rfl _ _ rfl Tryz.elemI rfl oN ⟨wc.heap.size, 0, none⟩ 1 1 [.int .i64 (r3 : Int)] rfl rfl ?c1 ?c2 ?c3 ?c4 ?c5)
          case c1 => exact Own.news (T := 3) (oC.alloc _)
          case c2 => intro u hu; simp at hu; rcases hu with rfl; rfl
          case c3 => unfold maxLen; omega
          case c4 => omega
          case c5 =>
            intro a' c' w1 o2 k2
            go_wp2
            go_roundw
            case rel => exact run_next hp hR hx hv hn1 (by go_num) o2 (kC.trans k2.al)
            case measure => simp [intOf]; omega
    · have hx2 := runesL_end s pos hp
      rw [hx2, List.append_nil] at hx
      have hd : s.data.toList.drop pos = [] := List.drop_eq_nil_of_le (by omega)
      rw [hd, Lib.validD_nil] at hv
      have hn2 : n = xs.length := by have := oR.slc_len.1; unfold ints at this; rw [List.length_map] at this; omega
      subst hx
      subst hn2
      go_wp2
      go_ret2
      unfold RunesPost
      rw [← hv, if_pos rfl]
      exact ⟨a, c, rfl, oR, kR⟩
end
end Go.Proofs.YtbldanhjbnpdiaaGreatDoor
