/- The laws of the ledger: LagErrors' walk. -/
import Derived.Test.YtalkmeclkjnjnaaLagF
namespace Go.Proofs.Ytalkmeclkjnjnaa
open Go.RowKit
open SP
section
variable {P : SP} {W w w' : World} {R : List SP} {b rb cb N : Nat} {L : List Tg}
def leL2 : List Tg := [⟨0, 1, 0⟩, ⟨1, 3, 0⟩]
set_option maxHeartbeats 6400000 in
set_option maxRecDepth 100000 in
theorem lagErrors_walk (a c n : Int) (_ : (Lit.int .i64 a).wf = true) (_ : (Lit.int .i64 c).wf = true) (_ : (Lit.int .i64 n).wf = true) (w : World) :
    Calls Try.prog 4 #[.int .i64 a, .int .i64 c, .int .i64 n] w fun e w' => e = .returned (.bool true) ∧ Below w.heap.size w w' := by
  have oW := Own.start w
  have q1 : nJoin [] 0 1 = (0, awL1) := by decide
  have q2 : nJoin awL1 1 3 = (0, leL2) := by decide
  have s2 : sumS leL2 = 0 := by decide
  go_enter Try.func4, Try.ntmps4
  go_wp2_with fail
  refine (lagNew_spec oW).mono ?_
  rintro e2 v2 ⟨b, rfl, o2, k2⟩
  have o3 := LedR.start (P := SP.pu True) (o2.alloc (.cells #[.slice none 0 0] 48))
  obtain ⟨rb, hrb⟩ : ∃ rb, v2.heap.size = rb := ⟨_, rfl⟩
  rw [hrb] at o3
  have oP := (Own.pu.2 ⟨trivial, o3⟩).re [2, 1, 0, 3]
  have K3 : Calm w (v2.alloc (.cells #[.slice none 0 0] 48)) := k2.trans ⟨rfl, rfl, rfl⟩
  generalize SP.pu True = P at oP
  clear o3 o2 k2
  have h1 := lagJoin_spec 0 1 oP
  rw [q1] at h1; dsimp only at h1
  go_wp2_with fail
  refine h1.mono ?_
  rintro e4 w4 ⟨rfl, o4, k4⟩
  have h2 := ledJoin_spec 0 1 (LgOk.start).ok (o4.re [1, 2, 0, 3])
  rw [q1] at h2; dsimp only at h2
  clear h1 hrb oP
  go_wp2_with fail
  refine h2.mono ?_
  rintro e5 w5 ⟨P5, -, rfl, o5, k5⟩
  have h3 := lagJoin_spec 1 3 (o5.re [2, 0, 1, 3])
  rw [q2] at h3; dsimp only at h3
  clear h2
  go_wp2_with fail
  refine h3.mono ?_
  rintro e6 w6 ⟨rfl, o6, k6⟩
  have h4 := ledJoin_spec 1 3 (LagR.ok (o5.re [2, 0, 1, 3])).ok (o6.re [1, 2, 0, 3])
  rw [q2] at h4; dsimp only at h4
  clear h3
  go_wp2_with fail
  refine h4.mono ?_
  rintro e7 w7 ⟨P7, -, rfl, o7, k7⟩
  have o8 := o7.re [2, 0, 1, 3]
  have K8 := K3.trans (k4.trans (k5.trans (k6.trans k7)))
  clear h4 o7 o6 o5 o4 k4 k5 k6 k7 K3 q1 q2
  have hS8 : Hid (sumS leL2 = 0) := Lib.hid s2
  clear s2
  generalize leL2 = L8 at *
  have hok8 := Lib.hid (LagR.ok o8)
  obtain ⟨r9, L9, hq9⟩ : ∃ r L', nJoin L8 a c = (r, L') := ⟨_, _, rfl⟩
  have hp9 := lagJoin_spec a c o8
  have hr9 := fun (w : World) (R : List SP) (o : Own w (LedR P7 rb L8 :: P7 :: R)) => ledJoin_spec a c hok8.out.ok o
  have hs9 := nJoin_sum L8 a c
  rw [hq9] at hp9 hr9 hs9; dsimp only at hp9 hr9 hs9
  have HS9 := Lib.hid (hs9.trans hS8.out)
  have HR9 := Lib.hid hr9
  clear hq9 hr9 hs9
  go_wp2_with fail
  refine hp9.mono ?_
  rintro e9 w9 ⟨rfl, o9, k9⟩
  go_wp2_with fail
  refine (HR9.out _ _ (o9.re [1, 2, 0, 3])).mono ?_
  rintro e10 w10 ⟨P10, -, rfl, o10, k10⟩
  have o11 := o10.re [2, 0, 1, 3]
  have K11 := K8.trans (k9.trans k10)
  clear hp9 HR9 o10 o9 o8 k9 k10 K8
  have hok11 := Lib.hid (LagR.ok o11)
  obtain ⟨r12, L12, hq⟩ : ∃ r L', nSetw L9 a n = (r, L') := ⟨_, _, rfl⟩
  have hp := lagSetw_spec a n o11
  have hr := fun (w : World) (R : List SP) (o : Own w (LedR P10 rb L9 :: P10 :: R)) => ledSetw_spec a n hok11.out.ok o
  have hs := nSetw_sum hok11.out a n
  rw [hq] at hp hr hs; dsimp only at hp hr hs
  have HS12 := Lib.hid (hs.trans HS9.out)
  have HR := Lib.hid hr
  clear hq hr hs
  go_wp2_with fail
  refine hp.mono ?_
  rintro e12 w12 ⟨rfl, o12, k12⟩
  go_wp2_with fail
  refine (HR.out _ _ (o12.re [1, 2, 0, 3])).mono ?_
  rintro e13 w13 ⟨P13, -, rfl, o13, k13⟩
  have o14 := o13.re [2, 0, 1, 3]
  have K14 := K11.trans (k12.trans k13)
  clear hp HR o13 o12 o11 k12 k13 K11
  have hok14 := Lib.hid (LagR.ok o14)
  obtain ⟨r15, L15, hq⟩ : ∃ r L', nMove L12 a c n = (r, L') := ⟨_, _, rfl⟩
  have hp := lagMove_spec a c n (by omega) o14
  have hr := fun (w : World) (R : List SP) (o : Own w (LedR P13 rb L12 :: P13 :: R)) => ledMove_spec a c n hok14.out (by omega) o
  have hs := (nMove_ok hok14.out a c n).2
  rw [hq] at hp hr hs; dsimp only at hp hr hs
  have HS15 := Lib.hid (hs.trans HS12.out)
  have HR := Lib.hid hr
  clear hq hr hs
  go_wp2_with fail
  refine hp.mono ?_
  rintro e15 w15 ⟨rfl, o15, k15⟩
  go_wp2_with fail
  refine (HR.out _ _ (o15.re [1, 2, 0, 3])).mono ?_
  rintro e16 w16 ⟨P16, -, rfl, o16, k16⟩
  have o17 := o16.re [2, 0, 1, 3]
  have K17 := K14.trans (k15.trans k16)
  clear hp HR o16 o15 o14 k15 k16 K14
  have hok17 := Lib.hid (LagR.ok o17)
  obtain ⟨r18, L18, hq⟩ : ∃ r L', nMove L15 0 1 n = (r, L') := ⟨_, _, rfl⟩
  have hp := lagMove_spec 0 1 n (by omega) o17
  have hr := fun (w : World) (R : List SP) (o : Own w (LedR P16 rb L15 :: P16 :: R)) => ledMove_spec 0 1 n hok17.out (by omega) o
  have hs := (nMove_ok hok17.out 0 1 n).2
  rw [hq] at hp hr hs; dsimp only at hp hr hs
  have HS18 := Lib.hid (hs.trans HS15.out)
  have HR := Lib.hid hr
  clear hq hr hs
  go_wp2_with fail
  refine hp.mono ?_
  rintro e18 w18 ⟨rfl, o18, k18⟩
  go_wp2_with fail
  refine (HR.out _ _ (o18.re [1, 2, 0, 3])).mono ?_
  rintro e19 w19 ⟨P19, -, rfl, o19, k19⟩
  have o20 := o19.re [2, 0, 1, 3]
  have K20 := K17.trans (k18.trans k19)
  clear hp HR o19 o18 o17 k18 k19 K17
  have hok20 := Lib.hid (LagR.ok o20)
  obtain ⟨r21, L21, hq⟩ : ∃ r L', nLeave L18 c = (r, L') := ⟨_, _, rfl⟩
  obtain ⟨r21a, r21b⟩ := r21
  have hp := lagLeave_spec c (by omega) o20
  have hr := fun (w : World) (R : List SP) (o : Own w (LedR P19 rb L18 :: P19 :: R)) => ledLeave_spec c hok20.out (by omega) o
  have hs := nLeave_sum hok20.out c HS18.out
  rw [hq] at hp hr hs; dsimp only at hp hr hs
  have HS21 := Lib.hid hs
  have HR := Lib.hid hr
  clear hq hr hs
  go_wp2_with fail
  refine hp.mono ?_
  rintro e21 w21 ⟨rfl, o21, k21⟩
  go_wp2_with fail
  refine (HR.out _ _ (o21.re [1, 2, 0, 3])).mono ?_
  rintro e22 w22 ⟨P22, -, rfl, o22, k22⟩
  have o23 := o22.re [2, 0, 1, 3]
  have K23 := K20.trans (k21.trans k22)
  clear hp HR o22 o21 o20 k21 k22 K20
  have hlen := (LagR.ok o23).ok.len
  go_wp2_with fail
  refine (lagParts_spec o23).mono ?_
  rintro e24 w24 ⟨a24, c24, rfl, o24, k24⟩
  go_wp2_with fail
  refine (ledParts_spec (by omega) (o24.re [2, 3, 0, 1, 4])).mono ?_
  rintro e25 w25 ⟨a25, c25, rfl, o25, k25⟩
  go_wp2_with fail
  refine (equalPt_spec (F := ptsOf L21) (ptsOf_len L21).symm (by omega) (o25.re [3, 0, 4, 1, 2, 5])).mono ?_
  rintro e26 w26 ⟨rfl, o26, k26⟩
  have o27 := o26.re [0, 1, 2, 3, 4, 5] 2
  have hsm := lagSum_spec (by omega) o27
  rw [HS21.out] at hsm
  go_wp2_with fail
  refine hsm.mono ?_
  rintro e27 w27 ⟨rfl, o28, k28⟩
  go_wp2_with fail
  refine (awake22_spec o28).mono ?_
  rintro e29 w29 ⟨rfl, o29, k29⟩
  go_wp2
  go_ret
  exact ⟨by simp, (o29.up 3).below (K23.trans (k24.trans (k25.trans (k26.trans (k28.trans k29)))))⟩
end
end Go.Proofs.Ytalkmeclkjnjnaa
