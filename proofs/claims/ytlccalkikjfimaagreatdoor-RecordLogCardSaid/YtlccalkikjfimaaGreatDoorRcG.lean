/- Records: drawn lists, equal lists, Filter of both sides. -/
import Derived.Test.YtlccalkikjfimaaGreatDoorRcJ
import Derived.Test.YtlccalkikjfimaaGreatDoorRcE
namespace Go.Proofs.YtlccalkikjfimaaGreatDoor
open Go.RowKit
open SP
section
variable {W w w' : World} {R : List SP} {cb : Nat}
def nvOf : Value → Nat
  | .int _ n => n.toNat
  | _ => 0
def EqRelR (n : Nat) (w : World) (v : Value) (wr : World) : Prop := ∃ (i q : Nat), v = .int .i64 (i : Int) ∧ i ≤ n ∧ wr = w.drewN q
set_option maxHeartbeats 1600000 in
set_option maxRecDepth 100000 in
theorem equalR_spec {a1 a2 : Option Addr} {n c1 c2 : Nat} {F : List Rec} (hn : n = F.length) (hn2 : n ≤ 1000000) (o : Own w (slc 39 6 a1 n c1 (flat recC F) :: slc 39 6 a2 n c2 (flat recC F) :: R)) :
    Calls Tryz.prog 17 #[.slice a1 n c1, .slice a2 n c2] w (Ret (.bool true) (slc 39 6 a1 n c1 (flat recC F) :: slc 39 6 a2 n c2 (flat recC F) :: R) w) := by
  have HN := Lib.hid hn
  clear hn
  go_enter Tryz.func17, Tryz.ntmps17
  go_wp2
  go_loopw [5] (fun v wr => EqRelR n w v wr) (fun v _ => n - nvOf v)
  case atStart => exact ⟨0, 0, rfl, by omega, rfl⟩
  case round =>
    obtain ⟨i, q, rfl, hi, rfl⟩ := hrel
    by_cases hlt : i < n
    · obtain ⟨f, hf⟩ : ∃ f, F[i]? = some f := ⟨_, List.getElem?_eq_getElem (by rw [← HN.out]; exact hlt)⟩
      obtain ⟨g1, so1, hg1, d0, d1, d2, d3, d4, d5⟩ := (recsAt_slc a1 n c1 F HN.out).six o hf
      obtain ⟨g2, so2, hg2, f0, f1, f2, f3, f4, f5⟩ := (recsAt_slc a2 n c2 F HN.out).six (o.up 1) hf
      subst hg1
      subst hg2
      clear hf
      go_wp2
      go_quiet (fail)
      go_wp2
      go_roundw
      case rel => exact ⟨i + 1, _, by go_num, by omega, rfl⟩
      case measure => simp [nvOf]; omega
    · go_wp2
      go_ret
      exact ⟨rfl, o.drewN q, ⟨rfl, rfl, rfl⟩⟩

def RsRel (W : World) (cb N : Nat) (R : List SP) (w : World) (k0 : Nat) (v5 v6 : Value) (wr : World) : Prop :=
  ∃ (k : Nat) (l : List Rec) (a : Option Addr) (c : Nat), v6 = .int .i64 (k : Int) ∧ k ≤ k0 ∧ l.length + k = k0 ∧ v5 = .slice a l.length c ∧
    Own wr (slc 39 6 a l.length c (flat recC l) :: Ch W cb (N + 1 + 8 * (k0 - k)) :: old W :: R) ∧ Calm w wr
set_option maxHeartbeats 3200000 in
set_option maxRecDepth 100000 in
theorem records_spec (n : Nat) (hn : n ≤ 100) (N : Nat) (hN : (N : Int) ≤ 800000000000) (o : Own w (Ch W cb N :: old W :: R)) :
    Calls Tryz.prog 8 #[.pointer (some ⟨cb, 0, none⟩), .int .i64 (n : Int)] w fun e w' => ∃ (l : List Rec) (a : Option Addr) (c : Nat), l.length ≤ n ∧ e = .returned (.slice a l.length c) ∧
      Own w' (slc 39 6 a l.length c (flat recC l) :: Ch W cb (N + 1 + 8 * n) :: old W :: R) ∧ Calm w w' := by
  have hw : IntKind.i64.wrap ((n : Int) + 1) = (n : Int) + 1 := by rw [IntKind.wrap_i64]; omega
  go_enter Tryz.func8, Tryz.ntmps8
  go_wp2_with fail
  refine (next_spec W cb N ((n : Int) + 1) _ _ (by omega) (by omega) (by omega) o).mono ?_
  rintro e1 w1 ⟨x, hx0, hx1, rfl, o1, k1⟩
  obtain ⟨k0, rfl⟩ : ∃ k : Nat, x = (k : Int) := ⟨x.toNat, by omega⟩
  have hT : RsRel W cb N R w k0 (.slice none 0 0) (.int .i64 (k0 : Int)) w1 := ⟨k0, [], none, 0, rfl, by omega, by simp, rfl, Own.slc_nil (by rw [Nat.sub_self]; exact o1), k1⟩
  have hk0 : k0 ≤ n := by omega
  clear o o1 k1 hw hx0 hx1
  go_wp2
  go_loopw [5, 6] (fun v5 v6 wr => RsRel W cb N R w k0 v5 v6 wr) (fun _ v _ => nvOf v)
  case atStart => exact hT
  case round =>
    clear hT
    obtain ⟨k, l, a, c, rfl, hk, hlk, rfl, oR, kR⟩ := hrel
    by_cases hlt : 0 < k
    · go_wp2_with fail
      refine (genRecord_spec (N + 1 + 8 * (k0 - k)) (by omega) (oR.re [1, 2, 0])).mono ?_
      rintro e2 w2 ⟨r, rfl, o2, k2⟩
      have oA := o2.alloc (.cells (recC r).toArray 39)
      obtain ⟨s, q, f, p, y, u⟩ := r
      unfold recV
      have hnw := Own.news (T := 39) (vs := recC ⟨s, q, f, p, y, u⟩) oA
      have hw : IntKind.i64.wrap ((k : Int) - 1) = (k : Int) - 1 := by rw [IntKind.wrap_i64]; omega
      go_wp2_with (at_builtin; refine wpList_append_slc rfl _ _ rfl Tryz.recT rfl (oA.up 3) ⟨w2.heap.size, 0, none⟩ 1 1 (recC ⟨s, q, f, p, y, u⟩) rfl rfl hnw ?c2 ?c3 ?c4 ?c5)
      case c2 => intro z hz; unfold recC at hz; simp at hz; rcases hz with rfl | rfl | rfl | rfl | rfl | rfl <;> rfl
      case c3 => unfold maxLen; omega
      case c4 => omega
      case c5 =>
      intro a3 c3 w3 o3 k3
      go_wp2
      go_roundw
      case rel =>
        refine ⟨k - 1, l ++ [⟨s, q, f, p, y, u⟩], a3, c3, by rw [show ((k - 1 : Nat) : Int) = (k : Int) - 1 from by omega], by omega, by rw [List.length_append]; simp; omega, by rw [List.length_append]; rfl, ?_, kR.trans (k2.trans ⟨k3.os, k3.tape, k3.output⟩)⟩
        rw [flat_append, List.length_append]
        have := (o3.up 1).drop
        exact (Own.re (Ch.upTo (N := N + 1 + 8 * (k0 - k) + 8) (M := N + 1 + 8 * (k0 - (k - 1))) (by omega) (o3.re [1, 2, 0, 3] 1)) [1, 0, 2])
      case measure => simp [nvOf]; omega
    · have hz : k = 0 := by omega
      subst hz
      go_wp2
      go_ret
      exact ⟨l, a, c, by omega, rfl, Own.re (Ch.upTo (N := N + 1 + 8 * (k0 - 0)) (M := N + 1 + 8 * n) (by omega) (oR.up 1)) [1, 0, 2], kR⟩
end
end Go.Proofs.YtlccalkikjfimaaGreatDoor
