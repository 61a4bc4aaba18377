/- RecordFilter: the walk. -/
import Derived.Test.YtlccalkikjfimaaDoorRcN
import Derived.Test.YtlccalkikjfimaaDoorRcF
import Derived.ChangeKeysEq
import Derived.Laws.StructEq
namespace Go.Proofs.YtlccalkikjfimaaDoor
open Go.RowKit
open SP
section
variable {W w w' : World} {R : List SP} {cb : Nat}
theorem eqItems_self {P : Program} {e : TypeId} (he : P.plainKey e = true) (hu : P.underlying e = some (.int .i64)) (d : Nat) (xs : Array Value) (w : World) : ∀ is : List Nat, (∀ j ∈ is, ∃ n : Int, xs[j]? = some (.int .i64 n)) → (Op.eqItems (d + 1) e 1 xs xs is).run P w = .ok true w
  | [], _ => by simp [Op.eqItems]
  | j :: is, h => by
    obtain ⟨n, hn⟩ := h j (by simp)
    have hp := run_part_plain (P := P) (w := w) he hn
    have ih := eqItems_self he hu d xs w is fun k hk => h k (by simp [hk])
    simp only [Op.eqItems, Sem.run_bind, Nat.mul_one, hp, Result.andThen_ok, run_equalIn_int _ _ _ _ _ _ _ hu, BEq.rfl, Bool.not_true, Bool.false_eq_true, if_false]
    exact ih
theorem eql11 (z0 z1 z2 z3 z4 z5 z6 z7 z8 z9 z10 : Int) (w : World) : (Op.equalIn 10000 36 (.agg #[.int .i64 z0, .int .i64 z1, .int .i64 z2, .int .i64 z3, .int .i64 z4, .int .i64 z5, .int .i64 z6, .int .i64 z7, .int .i64 z8, .int .i64 z9, .int .i64 z10]) (.agg #[.int .i64 z0, .int .i64 z1, .int .i64 z2, .int .i64 z3, .int .i64 z4, .int .i64 z5, .int .i64 z6, .int .i64 z7, .int .i64 z8, .int .i64 z9, .int .i64 z10])).run Tryd.prog w = .ok true w := by
  have hce : Tryd.prog.cellsOf 3 = 1 := by kernel_rfl
  obtain ⟨i, hi⟩ := Option.isSome_iff_exists.1 (show (Tryd.prog.info? 3).isSome = true by kernel_rfl)
  have hu : Tryd.prog.underlying 36 = some (.array 11 3) := by kernel_rfl
  obtain ⟨n, hn⟩ : ∃ n : Nat, (10000 : Nat) = n + 1 + 1 := ⟨9998, rfl⟩
  rw [hn, run_equalIn_array (P := Tryd.prog) (w := w) (n + 1) _ _ hu hi, hce]
  clear hn
  refine eqItems_self (by kernel_rfl) Tryd.underlying3 n _ w _ fun j hj => ?_
  have hj' := List.mem_range.1 hj
  match j, hj' with
  | 0, _ => exact ⟨z0, rfl⟩
  | 1, _ => exact ⟨z1, rfl⟩
  | 2, _ => exact ⟨z2, rfl⟩
  | 3, _ => exact ⟨z3, rfl⟩
  | 4, _ => exact ⟨z4, rfl⟩
  | 5, _ => exact ⟨z5, rfl⟩
  | 6, _ => exact ⟨z6, rfl⟩
  | 7, _ => exact ⟨z7, rfl⟩
  | 8, _ => exact ⟨z8, rfl⟩
  | 9, _ => exact ⟨z9, rfl⟩
  | 10, _ => exact ⟨z10, rfl⟩
def RqMid (W : World) (cb : Nat) (v10 : Value) (wc : World) : Prop :=
  ∃ (l : List Rec) (a : Option Addr) (c : Nat), l.length ≤ 70 ∧ v10 = .slice a l.length c ∧ Own wc [slc 24 6 a l.length c (flat recC l), Ch W cb 200, old W] ∧ Calm W wc
set_option maxHeartbeats 12800000 in
set_option maxRecDepth 100000 in
theorem recordFilter_walk (a0 : Option Addr) (len0 cap0 : Nat) (z0 : List Int) (a1 : Option Addr) (len1 cap1 : Nat) (L : List Rec) (kd fw : Int) (w : World) (w0 : IsRow .i64 w a0 len0 cap0 z0) (w1 : RecsAt (old w) a1 L) (l1 : len1 = L.length) (m1 : len1 ≤ 9223372036854775807) (hT : TabsR w) :
    Calls Tryd.prog 4 #[.slice a0 len0 cap0, .slice a1 len1 cap1, .int .i64 kd, .int .i64 fw] w fun e w' => e = .returned (.bool true) ∧ Below w.heap.size w w' := by
  have oW := Own.start w
  have HT := Lib.hid hT
  have HR := Lib.hid w1
  have HL := Lib.hid l1
  clear hT w1 l1
  go_enter Tryd.func4, Tryd.ntmps4
  go_wp2_with fail
  refine (genNew_spec a0 len0 cap0 z0 w0 oW).mono ?_
  rintro e1 v1 ⟨cb, rfl, o1, k1⟩
  go_wp2_with fail
  refine (records_spec 20 (by omega) 0 (by omega) o1).mono ?_
  rintro e2 v2 ⟨l, a, c, hl, rfl, o2, k2⟩
  have K2 := k1.trans k2
  clear o1 k1 k2
  go_upto_if 19 with fail
  go_cut [10] (fun v10 wc => RqMid w cb v10 wc)
  case first =>
    by_cases h50 : len1 ≤ 50
    · have hsrc := recs_src (c := cap1) HR.out HL.out (o2.up 2)
      go_wp2_with (at_builtin; refine wpList_append_src rfl _ _ rfl Tryd.recT rfl o2 rfl hsrc (by unfold maxLen; omega) (by omega) ?k1)
      case k1 =>
      intro a3 c3 w3 o3 k3
      go_wp2
      go_meet
      refine ⟨l ++ L, a3, c3, by rw [List.length_append, ← HL.out]; omega, by rw [List.length_append, ← HL.out], ?_, K2.trans ⟨k3.os, k3.tape, k3.output⟩⟩
      rw [List.length_append, ← HL.out, flat_append]
      exact Own.re (Ch.upTo (N := 0 + 1 + 8 * 20) (M := 200) (by omega) (o3.up 1)) [1, 0, 2]
    · have h50' : (50 : Int) < (len1 : Int) := by omega
      go_wp2
      go_meet
      exact ⟨l, a, c, by omega, rfl, Own.re (Ch.upTo (N := 0 + 1 + 8 * 20) (M := 200) (by omega) (o2.up 1)) [1, 0, 2], K2⟩
  case rest =>
    clear o2 K2 hl
    obtain ⟨l, a, c, hl, rfl, o3, K3⟩ := hcut
    go_wp2_with fail
    refine (next_spec w cb 200 12 _ _ (by omega) (by omega) (by omega) (o3.re [1, 2, 0])).mono ?_
    rintro e4 w4 ⟨k, hk0, hk1, rfl, o4, k4⟩
    go_wp2_with fail
    refine (next_spec w cb 201 6 _ _ (by omega) (by omega) (by omega) o4).mono ?_
    rintro e5 w5 ⟨f', hf0, hf1, rfl, o5, k5⟩
    have hwf : IntKind.i64.wrap (f' - 2) = f' - 2 := by rw [IntKind.wrap_i64]; omega
    have o6 := o5.re [2, 0, 1]
    have K5 := K3.trans (k4.trans k5)
    clear o3 o4 o5 K3 k4 k5
    have hSl : RecsAt (slc 24 6 a l.length c (flat recC l)) a l := recsAt_slc a l.length c l rfl
    have o6 : Own w5 (slc 24 6 a l.length c (flat recC l) :: Ch w cb (201 + 1) :: old w :: []) := o6
    go_wp2_with fail
    clear hwf
    generalize f' - 2 = f at *
    have h1 := filtR_len k f l
    have h2 := filtR_len kd fw l
    refine (recFilter_spec k f hSl rfl (by omega) o6).mono ?_
    rintro e7 w7 ⟨a7, c7, rfl, o7, k7⟩
    go_wp2_with fail
    refine (refFilter_spec k f hSl rfl (by omega) (o7.up 1)).mono ?_
    rintro e8 w8 ⟨a8, c8, rfl, o8, k8⟩
    go_wp2_with fail
    refine (equalR_spec (F := filtR k f l) rfl (by omega) (o8.re [2, 0, 1, 3, 4])).mono ?_
    rintro e9 w9 ⟨rfl, o9, k9⟩
    have o10 := o9.re [0, 1, 2, 3, 4] 2
    have K10 := K5.trans (k7.trans (k8.trans k9))
    clear o9 o8 o7 o6 k9 k8 k7 K5
    go_wp2_with fail
    refine (recFilter_spec kd fw hSl rfl (by omega) o10).mono ?_
    rintro e11 w11 ⟨a11, c11, rfl, o11, k11⟩
    go_wp2_with fail
    refine (refFilter_spec kd fw hSl rfl (by omega) (o11.up 1)).mono ?_
    rintro e12 w12 ⟨a12, c12, rfl, o12, k12⟩
    go_wp2_with fail
    refine (equalR_spec (F := filtR kd fw l) rfl (by omega) (o12.re [2, 0, 1, 3, 4])).mono ?_
    rintro e13 w13 ⟨rfl, o13, k13⟩
    have o14 := o13.re [0, 1, 2, 3, 4] 2
    have K14 := K10.trans (k11.trans (k12.trans k13))
    clear o13 o12 o11 o10 k13 k12 k11 K10
    have hz := (cnts_ok (filtR 0 f l)).1
    have hy := (cnts_ok (filtR 0 fw l)).1
    have hc1 := fun (V : World) (R : List SP) (o : Own V (slc 24 6 a l.length c (flat recC l) :: R)) => recCounts_spec (c := c) f hSl rfl (by omega) o
    have hc2 := fun (V : World) (R : List SP) (o : Own V (slc 24 6 a l.length c (flat recC l) :: R)) => refCounts_spec (c := c) f hSl rfl (by omega) o
    have hc3 := fun (V : World) (R : List SP) (o : Own V (slc 24 6 a l.length c (flat recC l) :: R)) => recCounts_spec (c := c) fw hSl rfl (by omega) o
    have hc4 := fun (V : World) (R : List SP) (o : Own V (slc 24 6 a l.length c (flat recC l) :: R)) => refCounts_spec (c := c) fw hSl rfl (by omega) o
    generalize cnts (filtR 0 f l) = z at *
    generalize cnts (filtR 0 fw l) = y at *
    obtain ⟨z0, z1, z2, z3, z4, z5, z6, z7, z8, z9, z10, rfl⟩ := list11 hz
    obtain ⟨y0, y1, y2, y3, y4, y5, y6, y7, y8, y9, y10, rfl⟩ := list11 hy
    have ez := eql11 z0 z1 z2 z3 z4 z5 z6 z7 z8 z9 z10
    have ey := eql11 y0 y1 y2 y3 y4 y5 y6 y7 y8 y9 y10
    have H1 := Lib.hid hc1
    have H2 := Lib.hid hc2
    have H3 := Lib.hid hc3
    have H4 := Lib.hid hc4
    clear hc1 hc2 hc3 hc4 hz hy
    go_wp2_with fail
    refine (H1.out _ _ o14).mono ?_
    rintro e15 w15 ⟨rfl, o15, k15⟩
    go_wp2_with fail
    refine (H2.out _ _ o15).mono ?_
    rintro e16 w16 ⟨rfl, o16, k16⟩
    go_wp2_with fail
    refine (H3.out _ _ o16).mono ?_
    rintro e17 w17 ⟨rfl, o17, k17⟩
    go_wp2_with fail
    refine (H4.out _ _ o17).mono ?_
    rintro e18 w18 ⟨rfl, o18, k18⟩
    go_wp2_with fail
    refine (awake28_spec HT.out (o18.up 2)).mono ?_
    rintro e19 w19 ⟨rfl, o19, k19⟩
    go_wp2
    go_ret
    exact ⟨by simp, o19.below (K14.trans (k15.trans (k16.trans (k17.trans (k18.trans k19)))))⟩
end
end Go.Proofs.YtlccalkikjfimaaDoor
