/- SfqScript: the walk of 'act'. -/
import Derived.Test.YtnandakoigmknaaR12m
import Derived.Deep.DeepCutAuto
import Derived.Deep.CutBlock
namespace Go.Proofs.Ytnandakoigmknaa
open Go.RowKit
open SP
section
variable {P : SP} {W w w' : World} {R : List SP} {b rb cb : Nat} {reb : Int} {O : List Tg} {S : St} {N : Nat}
def ActT (b rb : Nat) (reb : Int) (N : Nat) (P : SP) (R : List SP) (w : World) (e : Ending) (w' : World) : Prop :=
  ∃ P' S' O', PExtT P P' ∧ RelT (N + 1) S' O' ∧ Ret (.bool true) (SfqR b reb S' :: RefT P' rb reb S'.L O' S'.tm S'.aw :: P' :: R) w e w'
def FwMid (W : World) (b rb cb : Nat) (reb : Int) (S : St) (O : List Tg) (P : SP) (M : Nat) (R : List SP) (w : World) (v7 v8 : Value) (wc : World) : Prop :=
  ∃ f x : Int, v7 = .int .i64 f ∧ v8 = .int .i64 x ∧ Own wc (Ch W cb M :: old W :: SfqR b reb S :: RefT P rb reb S.L O S.tm S.aw :: P :: R) ∧ Calm w wc
set_option maxHeartbeats 3200000 in
set_option maxRecDepth 100000 in
theorem act13_spec (h : RelT N S O) (hN : N ≤ 900) (M : Nat) (hM : (M : Int) ≤ 800000000000) (o : Own w (SfqR b reb S :: RefT P rb reb S.L O S.tm S.aw :: P :: Ch W cb M :: old W :: R)) :
    Calls Try.prog 40 #[.pointer (some ⟨cb, 0, none⟩), .pointer (some ⟨b, 0, none⟩), .pointer (some ⟨rb, 0, none⟩)] w (ActT b rb reb N P (Ch W cb (M + 10) :: old W :: R) w) := by
  have HH := Lib.hid h
  clear h
  go_enter Try.func40, Try.ntmps40
  go_wp2_with fail
  refine (next_spec W cb M 6 _ _ (by omega) (by omega) (by omega) (o.re [3, 4, 0, 1, 2])).mono ?_
  rintro e1 w1 ⟨f, hf0, hf1, rfl, o1, k1⟩
  go_wp2_with fail
  refine (weight_spec (W := W) (b := cb) (M + 1) (by omega) o1).mono ?_
  rintro e2 w2 ⟨x, hx0, hx1, rfl, o2, k2⟩
  go_wp2_with fail
  refine (next_spec W cb (M + 2) 30 _ _ (by omega) (by omega) (by omega) o2).mono ?_
  rintro e3 w3 ⟨y, hy0, hy1, rfl, o3, k3⟩
  have K3 := k1.trans (k2.trans k3)
  clear o o1 o2 k1 k2 k3
  go_upto_block 0 with fail
  go_cut [7, 8] (fun v7 v8 wc => FwMid W b rb cb reb S O P (M + 4) R w v7 v8 wc)
  case first =>
    by_cases h0 : y = 0
    · subst h0
      have oA := ((o3.alloc (.cells #[.int .i64 (-1), .int .i64 32, .int .i64 31] 3)).up 2).up 2
      go_wp2_with fail
      refine (next_spec W cb (M + 3) 3 _ _ (by omega) (by omega) (by omega) oA).mono ?_
      rintro e4 w4 ⟨z, hz0, hz1, rfl, o4, k4⟩
      obtain ⟨j, rfl⟩ : ∃ j : Nat, z = (j : Int) := ⟨z.toNat, by omega⟩
      obtain ⟨g, hg⟩ : ∃ g : Int, [Value.int .i64 (-1), .int .i64 32, .int .i64 31][j]? = some (.int .i64 g) := by
        have : j = 0 ∨ j = 1 ∨ j = 2 := by omega
        rcases this with rfl | rfl | rfl <;> exact ⟨_, rfl⟩
      have c4 := Own.cell (T := 3) (vs := [.int .i64 (-1), .int .i64 32, .int .i64 31]) (o4.up 2) j hg
      clear hg
      go_wp2
      go_meet
      exact ⟨g, x, rfl, rfl, Ch.upto (o4.re [2] 1), K3.trans k4.al⟩
    · by_cases h1 : y = 1
      · subst h1
        have oA := ((o3.alloc (.cells #[.int .i64 0, .int .i64 17] 3)).up 2).up 2
        go_wp2_with fail
        refine (next_spec W cb (M + 3) 2 _ _ (by omega) (by omega) (by omega) oA).mono ?_
        rintro e4 w4 ⟨z, hz0, hz1, rfl, o4, k4⟩
        obtain ⟨j, rfl⟩ : ∃ j : Nat, z = (j : Int) := ⟨z.toNat, by omega⟩
        obtain ⟨g, hg⟩ : ∃ g : Int, [Value.int .i64 0, .int .i64 17][j]? = some (.int .i64 g) := by
          have : j = 0 ∨ j = 1 := by omega
          rcases this with rfl | rfl <;> exact ⟨_, rfl⟩
        have c4 := Own.cell (T := 3) (vs := [.int .i64 0, .int .i64 17]) (o4.up 2) j hg
        clear hg
        go_wp2
        go_meet
        exact ⟨f, g, rfl, rfl, Ch.upto (o4.re [2] 1), K3.trans k4.al⟩
      · have hb0 : (y == 0) = false := by simpa using h0
        have hb1 : (y == 1) = false := by simpa using h1
        go_wp2
        go_meet
        exact ⟨f, x, rfl, rfl, Ch.upto o3, K3⟩
  case rest =>
    obtain ⟨f, x, rfl, rfl, o4, k4⟩ := hcut
    clear K3
    go_wp2_with fail
    refine (next_spec W cb (M + 4) 9 _ _ (by omega) (by omega) (by omega) o4).mono ?_
    rintro e5 w5 ⟨z, hz0, hz1, rfl, o5, k5⟩
    have o6 := (Ch.upto (M := M + 10) o5).re [2, 3, 4, 0, 1]
    have o7 := o5
    have K5 := k4.trans k5
    clear o4 o5 k4 k5
    by_cases h01 : z ≤ 1
    · obtain ⟨er, S', O', hR, hB⟩ := join_both HH.out (by omega) reb f x
      have HR := Lib.hid hR
      have HB := Lib.hid hB
      clear hR hB
      have h01' : z = 0 ∨ z = 1 := by omega
      clear h01 hz0 hz1
      rcases h01' with rfl | rfl
      · go_wp2_with fail
        refine (HB.out.prog b _ _ o6).mono ?_
        rintro e8 w8 ⟨rfl, o8, k8⟩
        go_wp2_with fail
        refine (HB.out.ref P rb _ _ (o8.re [1, 2, 0])).mono ?_
        rintro e9 w9 ⟨P', hE, rfl, o9, k9⟩
        go_wp2
        go_ret
        exact ⟨P', S', O', hE, HR.out, by simp, o9.re [2, 0, 1], K5.trans (k8.trans k9)⟩
      · go_wp2_with fail
        refine (HB.out.prog b _ _ o6).mono ?_
        rintro e8 w8 ⟨rfl, o8, k8⟩
        go_wp2_with fail
        refine (HB.out.ref P rb _ _ (o8.re [1, 2, 0])).mono ?_
        rintro e9 w9 ⟨P', hE, rfl, o9, k9⟩
        go_wp2
        go_ret
        exact ⟨P', S', O', hE, HR.out, by simp, o9.re [2, 0, 1], K5.trans (k8.trans k9)⟩
    · have hb0 : (z == 0) = false := by rw [beq_eq_false_iff_ne]; omega
      have hb1 : (z == 1) = false := by rw [beq_eq_false_iff_ne]; omega
      by_cases h2 : z = 2
      · subst h2
        obtain ⟨er, S', O', hR, hB⟩ := leave_both HH.out (by omega) reb f
        have HR := Lib.hid hR
        have HB := Lib.hid hB
        clear hR hB
        go_wp2_with fail
        refine (HB.out.prog b _ _ o6).mono ?_
        rintro e8 w8 ⟨rfl, o8, k8⟩
        go_wp2_with fail
        refine (HB.out.ref P rb _ _ (o8.re [1, 2, 0])).mono ?_
        rintro e9 w9 ⟨P', hE, rfl, o9, k9⟩
        go_wp2
        go_ret
        exact ⟨P', S', O', hE, HR.out, by simp, o9.re [2, 0, 1], K5.trans (k8.trans k9)⟩
      · have hb2 : (z == 2) = false := by rw [beq_eq_false_iff_ne]; omega
        by_cases h3 : z = 3
        · subst h3
          obtain ⟨er, S', O', hR, hB⟩ := setW_both HH.out reb f x
          have HR := Lib.hid hR
          have HB := Lib.hid hB
          clear hR hB
          go_wp2_with fail
          refine (HB.out.prog b _ _ o6).mono ?_
          rintro e8 w8 ⟨rfl, o8, k8⟩
          go_wp2_with fail
          refine (HB.out.ref P rb _ _ (o8.re [1, 2, 0])).mono ?_
          rintro e9 w9 ⟨P', hE, rfl, o9, k9⟩
          go_wp2
          go_ret
          exact ⟨P', S', O', hE, HR.out, by simp, o9.re [2, 0, 1], K5.trans (k8.trans k9)⟩
        · have hb3 : (z == 3) = false := by rw [beq_eq_false_iff_ne]; omega
          by_cases h4 : z = 4
          · subst h4
            have oA := ((o7.alloc (.cells #[.int .i64 0, .int .i64 1, .int .i64 100, .int .i64 4096, .int .i64 4097] 3)).up 2).up 2
            go_wp2_with fail
            refine (next_spec W cb (M + 4 + 1) 5 _ _ (by omega) (by omega) (by omega) oA).mono ?_
            rintro e8 w8 ⟨u, hu0, hu1, rfl, o8, k8⟩
            obtain ⟨j, rfl⟩ : ∃ j : Nat, u = (j : Int) := ⟨u.toNat, by omega⟩
            obtain ⟨g, hg⟩ : ∃ g : Int, [Value.int .i64 0, .int .i64 1, .int .i64 100, .int .i64 4096, .int .i64 4097][j]? = some (.int .i64 g) := by
              have : j = 0 ∨ j = 1 ∨ j = 2 ∨ j = 3 ∨ j = 4 := by omega
              rcases this with rfl | rfl | rfl | rfl | rfl <;> exact ⟨_, rfl⟩
            have c4 := Own.cell (T := 3) (vs := [.int .i64 0, .int .i64 1, .int .i64 100, .int .i64 4096, .int .i64 4097]) (o8.up 2) j hg
            clear hg
            obtain ⟨er, S', O', hR, hB⟩ := charge_both HH.out (by omega) reb f g
            have HR := Lib.hid hR
            have HB := Lib.hid hB
            clear hR hB
            have o9 := (Ch.upto (M := M + 10) (o8.re [2] 1)).re [2, 3, 4, 0, 1]
            go_wp2_with fail
            refine (HB.out.prog b _ _ o9).mono ?_
            rintro e10 w10 ⟨rfl, o10, k10⟩
            go_wp2_with fail
            refine (HB.out.ref P rb _ _ (o10.re [1, 2, 0])).mono ?_
            rintro e11 w11 ⟨P', hE, rfl, o11, k11⟩
            go_wp2
            go_ret
            exact ⟨P', S', O', hE, HR.out, by simp, o11.re [2, 0, 1], K5.trans (k8.al.trans (k10.trans k11))⟩
          · have hb4 : (z == 4) = false := by rw [beq_eq_false_iff_ne]; omega
            have hok := HH.out.ok.ok
            have HOK := Lib.hid hok
            clear hok
            have hsel := sfqSelect_spec (o7.re [2, 3, 4, 0, 1])
            obtain ⟨q, er, hq⟩ : ∃ q er : Int, selT S.L = (q, er) := ⟨_, _, rfl⟩
            have HQ := Lib.hid hq
            rw [hq] at hsel
            clear hq
            go_wp2_with fail
            refine hsel.mono ?_
            rintro e8 w8 ⟨rfl, o8, k8⟩
            have hsel2 := selectT_spec HOK.out (o8.re [1, 2, 0])
            rw [HQ.out] at hsel2
            clear hsel
            go_wp2_with fail
            refine hsel2.mono ?_
            rintro e9 w9 ⟨rfl, o9, k9⟩
            clear hsel2
            go_wp2_with fail
            refine (length_spec (W := W) (b := cb) (M + 4 + 1) (by omega) (o9.re [3, 4, 2, 0, 1])).mono ?_
            rintro e10 w10 ⟨l, hl0, hl1, rfl, o10, k10⟩
            obtain ⟨er2, S', O', hR, hB⟩ := charge_both HH.out (by omega) reb q l
            have HR := Lib.hid hR
            have HB := Lib.hid hB
            clear hR hB
            go_wp2_with fail
            refine (HB.out.prog b _ _ (o10.re [2, 3, 4, 0, 1])).mono ?_
            rintro e11 w11 ⟨rfl, o11, k11⟩
            go_wp2_with fail
            refine (HB.out.ref P rb _ _ (o11.re [1, 2, 0])).mono ?_
            rintro e12 w12 ⟨P', hE, rfl, o12, k12⟩
            go_wp2
            go_ret
            exact ⟨P', S', O', hE, HR.out, by simp, (Ch.upto (M := M + 10) (o12.re [3])).re [3, 1, 2, 0], K5.trans (k8.trans (k9.trans (k10.trans (k11.trans k12))))⟩
end
end Go.Proofs.Ytnandakoigmknaa
