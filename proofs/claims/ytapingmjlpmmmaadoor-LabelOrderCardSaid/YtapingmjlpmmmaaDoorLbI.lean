/- LabelOrder: the walk. -/
import Derived.Test.YtapingmjlpmmmaaDoorLbG
import Derived.Laws.Rows
namespace Go.Proofs.YtapingmjlpmmmaaDoor
open Go.RowKit
open SP
section
variable {W w w' : World} {R : List SP}
theorem neStr {a b : ByteArray} (h : a ≠ b) : (a.toList == b.toList) = false :=
  beq_eq_false_iff_ne.2 fun e => h (ByteArray.ext (Array.toList_inj.1 (by rw [← ByteArray.toList_eq, ← ByteArray.toList_eq]; exact e)))
theorem cmpN_range : ∀ (l m : List Nat), cmpN l m = -1 ∨ cmpN l m = 0 ∨ cmpN l m = 1
  | [], [] => .inr (.inl rfl)
  | [], _ :: _ => .inl rfl
  | _ :: _, [] => .inr (.inr rfl)
  | x :: l, y :: m => by
    have h := cmpN_range l m
    simp only [cmpN]
    (repeat' split) <;> omega
theorem Gx.range {x y : ByteArray} (h : Gx x) (g : Gx y) : cmpS x y = -1 ∨ cmpS x y = 0 ∨ cmpS x y = 1 := by rw [h.cmp g]; exact cmpN_range _ _
/-- What the law looks at, by names. -/
theorem order_facts {x y z : ByteArray} (hx : Gx x) (hy : Gx y) (hz : Gx z) : ∃ (a b : ByteArray) (c1 c2 c3 c4 : Int), foldS x = a ∧ foldS y = b ∧ foldS a = a ∧ foldE x = 0 ∧ foldE y = 0 ∧ foldE a = 0 ∧ cmpS x a = 0 ∧ cmpS x y = c1 ∧ cmpS y x = c2 ∧ cmpS y z = c3 ∧ cmpS x z = c4 ∧
    a.size ≤ 24 ∧ ((c1 = 0 ∧ c2 = 0 ∧ a = b) ∨ (c1 = 1 ∧ c2 = -1 ∧ a ≠ b) ∨ (c1 = -1 ∧ c2 = 1 ∧ a ≠ b)) ∧ (c1 ≤ 0 → c3 ≤ 0 → c4 ≤ 0) := by
  refine ⟨_, _, _, _, _, _, rfl, rfl, hx.twice, hx.foldE, hy.foldE, hx.fold.foldE, hx.same, rfl, rfl, rfl, rfl, hx.fold.size, ?_, hx.trans hy hz⟩
  have h1 := hx.anti hy
  have h2 := hx.zero hy
  rcases hx.range hy with h | h | h
  · rw [h] at h1 h2 ⊢
    refine .inr (.inr ⟨rfl, by omega, fun e => by have := h2.2 e; omega⟩)
  · rw [h] at h1
    exact .inl ⟨h, by omega, h2.1 h⟩
  · rw [h] at h1 h2 ⊢
    refine .inr (.inl ⟨rfl, by omega, fun e => by have := h2.2 e; omega⟩)
set_option maxHeartbeats 12800000 in
set_option maxRecDepth 100000 in
theorem labelOrder_walk (a0 : Option Addr) (len0 cap0 : Nat) (z0 : List Int) (w : World) (w0 : IsRow .i64 w a0 len0 cap0 z0) (hT : TabsW w) (hm : MaxW w) :
    Calls Tryd.prog 8 #[.slice a0 len0 cap0] w fun e w' => e = .returned (.bool true) ∧ Below w.heap.size w w' := by
  have oW := Own.start w
  have HF := Lib.hid fun (w1 : World) (R : List SP) (s : ByteArray) (hs : s.size ≤ 2000000) (o1 : Own w1 (old w :: R)) => labFold_spec s hs hT o1
  have HC := Lib.hid fun (w1 : World) (R : List SP) (p s : ByteArray) (hp : p.size ≤ 2000000) (hs : s.size ≤ 2000000) (o1 : Own w1 (old w :: R)) => labCompare_spec p s hp hs hT o1
  have HA := Lib.hid fun (w1 : World) (R : List SP) (o1 : Own w1 (old w :: R)) => awake7_spec hT hm o1
  clear hT hm
  go_enter Tryd.func8, Tryd.ntmps8
  go_wp2_with fail
  refine (genNew_spec a0 len0 cap0 z0 (w0) oW).mono ?_
  rintro e1 v1 ⟨cb, rfl, o1, k1⟩
  go_wp2_with fail
  refine (genGood_spec 0 (by omega) o1).mono ?_
  rintro e2 v2 ⟨g1, hg1, rfl, o2, k2⟩
  obtain ⟨x, qx⟩ : ∃ x, g1 ++ (⟨#[107]⟩ : ByteArray) = x := ⟨_, rfl⟩
  have hx := gx_k hg1
  rw [qx] at hx
  have sx : g1.size ≤ 24 := by have := nameB_size (gd_k g1 hg1).1; rw [ByteArray.size_append] at this; omega
  clear hg1
  go_wp2_with fail
  refine (genGood_spec 1 (by omega) o2).mono ?_
  rintro e3 v3 ⟨g2, hg2, rfl, o3, k3⟩
  obtain ⟨y, qy⟩ : ∃ x, g2 ++ (⟨#[75]⟩ : ByteArray) = x := ⟨_, rfl⟩
  have hy := gx_K hg2
  rw [qy] at hy
  have sy : g2.size ≤ 24 := by have := nameB_size (gd_K g2 hg2).1; rw [ByteArray.size_append] at this; omega
  clear hg2
  go_wp2_with fail
  refine (genGood_spec 2 (by omega) o3).mono ?_
  rintro e4 v4 ⟨g3, hg3, rfl, o4, k4⟩
  obtain ⟨z, qz⟩ : ∃ x, g3 ++ (⟨#[107]⟩ : ByteArray) = x := ⟨_, rfl⟩
  have hz := gx_k hg3
  rw [qz] at hz
  have sz : g3.size ≤ 24 := by have := nameB_size (gd_k g3 hg3).1; rw [ByteArray.size_append] at this; omega
  clear hg3
  obtain ⟨a, b, c1, c2, c3, c4, h1, h2, h3, h4, h5, h6, h7, h8, h9, h10, h11, h12, h13, h14⟩ := order_facts hx hy hz
  have nx := hx.size
  have ny := hy.size
  have nz := hz.size
  clear hx hy hz
  have f1 := Lib.hid fun (w1 : World) (R : List SP) (o1 : Own w1 (old w :: R)) => HF.out w1 R x (by omega) o1
  have f2 := Lib.hid fun (w1 : World) (R : List SP) (o1 : Own w1 (old w :: R)) => HF.out w1 R y (by omega) o1
  have f3 := Lib.hid fun (w1 : World) (R : List SP) (o1 : Own w1 (old w :: R)) => HF.out w1 R a (by omega) o1
  have cxa := Lib.hid fun (w1 : World) (R : List SP) (o1 : Own w1 (old w :: R)) => HC.out w1 R x a (by omega) (by omega) o1
  have cxy := Lib.hid fun (w1 : World) (R : List SP) (o1 : Own w1 (old w :: R)) => HC.out w1 R x y (by omega) (by omega) o1
  have cyx := Lib.hid fun (w1 : World) (R : List SP) (o1 : Own w1 (old w :: R)) => HC.out w1 R y x (by omega) (by omega) o1
  have cyz := Lib.hid fun (w1 : World) (R : List SP) (o1 : Own w1 (old w :: R)) => HC.out w1 R y z (by omega) (by omega) o1
  have cxz := Lib.hid fun (w1 : World) (R : List SP) (o1 : Own w1 (old w :: R)) => HC.out w1 R x z (by omega) (by omega) o1
  rw [h1, h4] at f1
  rw [h2, h5] at f2
  rw [h3, h6] at f3
  rw [h7] at cxa
  rw [h8] at cxy
  rw [h9] at cyx
  rw [h10] at cyz
  rw [h11] at cxz
  clear HF HC h1 h2 h3 h4 h5 h6 h7 h8 h9 h10 h11
  have H13 := Lib.hid h13
  have H14 := Lib.hid h14
  clear h13 h14
  go_wp2_with fail
  refine (f1.out _ _ o4.swap).mono ?_
  rintro e5 v5 ⟨rfl, o5, k5⟩
  go_wp2_with fail
  refine (f2.out _ _ o5).mono ?_
  rintro e6 v6 ⟨rfl, o6, k6⟩
  go_wp2_with fail
  refine (f3.out _ _ o6).mono ?_
  rintro e7 v7 ⟨rfl, o7, k7⟩
  go_wp2_with fail
  refine (cxa.out _ _ o7).mono ?_
  rintro e8 v8 ⟨rfl, o8, k8⟩
  have K8 : Calm w v8 := k1.trans (k2.trans (k3.trans (k4.trans (k5.trans (k6.trans (k7.trans k8))))))
  clear f1 f2 f3 cxa k1 k2 k3 k4 k5 k6 k7 k8 o1 o2 o3 o4 o5 o6 o7
  have fin : ∀ (wl : World) (R : List SP), Own wl (old w :: R) → Calm v8 wl → Below w.heap.size w wl := fun wl R o k => o.below (K8.trans k)
  have FIN := Lib.hid fin
  clear fin
  rcases H13.out with ⟨rfl, rfl, rfl⟩ | ⟨rfl, rfl, hne⟩ | ⟨rfl, rfl, hne⟩
  · go_wp2_with fail
    refine (cxy.out _ _ o8).mono ?_
    rintro e9 v9 ⟨rfl, o9, k9⟩
    go_wp2_with fail
    refine (cyx.out _ _ o9).mono ?_
    rintro e10 v10 ⟨rfl, o10, k10⟩
    go_wp2_with fail
    refine (cxy.out _ _ o10).mono ?_
    rintro e11 v11 ⟨rfl, o11, k11⟩
    go_wp2_with fail
    refine (cxy.out _ _ o11).mono ?_
    rintro e12 v12 ⟨rfl, o12, k12⟩
    go_wp2_with fail
    refine (cyz.out _ _ o12).mono ?_
    rintro e13 v13 ⟨rfl, o13, k13⟩
    have K13 : Calm v8 v13 := k9.trans (k10.trans (k11.trans (k12.trans k13)))
    by_cases hc3 : 0 < c3
    · have d3 : decide (0 < c3) = true := decide_eq_true hc3
      go_wp2_with fail
      refine (HA.out _ _ o13).mono ?_
      rintro e14 v14 ⟨rfl, o14, k14⟩
      go_wp2
      go_ret
      exact ⟨rfl, FIN.out _ _ o14 (K13.trans k14)⟩
    · have d3 : decide (0 < c3) = false := decide_eq_false hc3
      have hc4 := H14.out (by omega) (by omega)
      have d4 : decide (c4 ≤ 0) = true := decide_eq_true hc4
      go_wp2_with fail
      refine (cxz.out _ _ o13).mono ?_
      rintro e14 v14 ⟨rfl, o14, k14⟩
      go_wp2_with fail
      refine (HA.out _ _ o14).mono ?_
      rintro e15 v15 ⟨rfl, o15, k15⟩
      go_wp2
      go_ret
      exact ⟨rfl, FIN.out _ _ o15 (K13.trans (k14.trans k15))⟩
  · have hb := neStr hne
    go_wp2_with fail
    refine (cxy.out _ _ o8).mono ?_
    rintro e9 v9 ⟨rfl, o9, k9⟩
    go_wp2_with fail
    refine (cyx.out _ _ o9).mono ?_
    rintro e10 v10 ⟨rfl, o10, k10⟩
    go_wp2_with fail
    refine (cxy.out _ _ o10).mono ?_
    rintro e11 v11 ⟨rfl, o11, k11⟩
    go_wp2_with fail
    refine (cxy.out _ _ o11).mono ?_
    rintro e12 v12 ⟨rfl, o12, k12⟩
    go_wp2_with fail
    refine (HA.out _ _ o12).mono ?_
    rintro e14 v14 ⟨rfl, o14, k14⟩
    go_wp2
    go_ret
    exact ⟨rfl, FIN.out _ _ o14 (k9.trans (k10.trans (k11.trans (k12.trans k14))))⟩
  · have hb := neStr hne
    go_wp2_with fail
    refine (cxy.out _ _ o8).mono ?_
    rintro e9 v9 ⟨rfl, o9, k9⟩
    go_wp2_with fail
    refine (cyx.out _ _ o9).mono ?_
    rintro e10 v10 ⟨rfl, o10, k10⟩
    go_wp2_with fail
    refine (cxy.out _ _ o10).mono ?_
    rintro e11 v11 ⟨rfl, o11, k11⟩
    go_wp2_with fail
    refine (cxy.out _ _ o11).mono ?_
    rintro e12 v12 ⟨rfl, o12, k12⟩
    go_wp2_with fail
    refine (cyz.out _ _ o12).mono ?_
    rintro e13 v13 ⟨rfl, o13, k13⟩
    have K13 : Calm v8 v13 := k9.trans (k10.trans (k11.trans (k12.trans k13)))
    by_cases hc3 : 0 < c3
    · have d3 : decide (0 < c3) = true := decide_eq_true hc3
      go_wp2_with fail
      refine (HA.out _ _ o13).mono ?_
      rintro e14 v14 ⟨rfl, o14, k14⟩
      go_wp2
      go_ret
      exact ⟨rfl, FIN.out _ _ o14 (K13.trans k14)⟩
    · have d3 : decide (0 < c3) = false := decide_eq_false hc3
      have hc4 := H14.out (by omega) (by omega)
      have d4 : decide (c4 ≤ 0) = true := decide_eq_true hc4
      go_wp2_with fail
      refine (cxz.out _ _ o13).mono ?_
      rintro e14 v14 ⟨rfl, o14, k14⟩
      go_wp2_with fail
      refine (HA.out _ _ o14).mono ?_
      rintro e15 v15 ⟨rfl, o15, k15⟩
      go_wp2
      go_ret
      exact ⟨rfl, FIN.out _ _ o15 (K13.trans (k14.trans k15))⟩
end
end Go.Proofs.YtapingmjlpmmmaaDoor
