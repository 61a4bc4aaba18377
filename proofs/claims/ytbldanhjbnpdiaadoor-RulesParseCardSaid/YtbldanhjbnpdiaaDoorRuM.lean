/- RulesParse: the walk (printed by genrp.py). -/
import Derived.Test.YtbldanhjbnpdiaaDoorRuL
import Derived.Test.YtbldanhjbnpdiaaDoorRuJ
import Derived.Test.YtbldanhjbnpdiaaDoorGenN
import Derived.Laws.Rows
import Derived.Test.YtbldanhjbnpdiaaDoorByt
import Derived.Lib.SlBytesConst
namespace Go.Proofs.YtbldanhjbnpdiaaDoor
open Go.RowKit
open Go.Shelf
open SP
/-- What has been done has values of these kinds. -/
def PVals (f : Nat → Value → Prop) (L : Nat → Bool) (v : Nat → Value) : Prop := ∀ i, L i = true → f i (v i)
theorem PVals.no {f : Nat → Value → Prop} {v : Nat → Value} : PVals f (fun _ => false) v := fun _ h => (Bool.false_ne_true h).elim
theorem PVals.put {f : Nat → Value → Prop} {L : Nat → Bool} {v : Nat → Value} (h : PVals f L v) (i : Nat) {x : Value} (hx : f i x) : PVals f (dIns L i) (dUpd v i x) := fun j hj => by
  unfold dUpd
  split
  · rename_i e; subst e; exact hx
  · rename_i e
    unfold dIns at hj
    rw [if_neg e] at hj
    exact h j hj
def strP (n : Nat) (x : Value) : Prop := ∃ s : ByteArray, s.size ≤ n ∧ x = .string s
def anyP (_ : Value) : Prop := True
section
variable {W w w' : World} {R : List SP} {cb : Nat}
theorem tb0 {x : Value} (h : x ∈ ([.string ⟨#[42]⟩, .string ⟨#[51]⟩, .string ⟨#[56]⟩, .string ⟨#[45, 49]⟩, .string ⟨#[48, 51]⟩, .string ⟨#[57, 57, 57, 57, 57]⟩, .string ⟨#[49, 50, 51, 52, 53, 54]⟩] : List Value)) : strP 7 x := by
  simp only [List.mem_cons, List.not_mem_nil, or_false] at h
  rcases h with rfl | rfl | rfl | rfl | rfl | rfl | rfl <;> exact ⟨_, by decide, rfl⟩
theorem tb1 {x : Value} (h : x ∈ ([.string ⟨#[42]⟩, .string ⟨#[53]⟩, .string ⟨#[53, 45, 53]⟩, .string ⟨#[48, 45, 54, 53, 53, 51, 53]⟩, .string ⟨#[57, 45, 49]⟩, .string ⟨#[49, 45]⟩, .string ⟨#[54, 53, 53, 51, 54]⟩, .string ⟨#[48, 48]⟩] : List Value)) : strP 7 x := by
  simp only [List.mem_cons, List.not_mem_nil, or_false] at h
  rcases h with rfl | rfl | rfl | rfl | rfl | rfl | rfl | rfl <;> exact ⟨_, by decide, rfl⟩
theorem tb2 {x : Value} (h : x ∈ ([.string ⟨#[62, 48]⟩, .string ⟨#[62, 51, 49]⟩, .string ⟨#[62, 51, 50]⟩, .string ⟨#[49]⟩, .string ⟨#[62]⟩, .string ⟨#[62, 32, 49]⟩, .string ⟨#[62, 48, 49]⟩] : List Value)) : strP 7 x := by
  simp only [List.mem_cons, List.not_mem_nil, or_false] at h
  rcases h with rfl | rfl | rfl | rfl | rfl | rfl | rfl <;> exact ⟨_, by decide, rfl⟩
def WMid (W : World) (cb M : Nat) (R : List SP) (w : World) (v : Value) (wc : World) : Prop := ∃ s : ByteArray, s.size ≤ 49 ∧ v = .string s ∧ Own wc (Ch W cb M :: old W :: R) ∧ Calm w wc

set_option maxHeartbeats 25600000 in
set_option maxRecDepth 100000 in
theorem rulesParse_walk (a0 : Option Addr) (len0 cap0 : Nat) (z0 : List Int) (p : ByteArray) (w : World) (w0 : IsRow .i64 w a0 len0 cap0 z0) (_ : p.size ≤ maxLen) (hm : MaxV w) :
    Calls Tryd.prog 3 #[.slice a0 len0 cap0, .string p] w fun e w' => e = .returned (.bool true) ∧ Below w.heap.size w w' := by
  have oW := Own.start w
  have HP := Lib.hid fun (w1 : World) (R : List SP) (s : ByteArray) (hs : s.size ≤ 1000000) (o1 : Own w1 (old w :: R)) => parses_spec s hs hm o1
  have HA := Lib.hid fun (w1 : World) (R : List SP) (o1 : Own w1 (old w :: R)) => awake9_spec hm o1
  clear hm
  go_enter Tryd.func3, Tryd.ntmps3
  go_wp2_with fail
  refine (genNew_spec a0 len0 cap0 z0 (w0) oW).mono ?_
  rintro e1 v1 ⟨cb, rfl, o1, k1⟩
  have hT1 : ∃ i : Nat, (Value.int .i64 0 : Value) = .int .i64 (i : Int) ∧ i ≤ 5 ∧ Own v1 [Ch w cb (12 * i), old w] ∧ Calm w v1 := ⟨0, rfl, by omega, o1, k1⟩
  go_wp2
  go_loopw [6] (fun v wr => ∃ i : Nat, v = .int .i64 (i : Int) ∧ i ≤ 5 ∧ Own wr [Ch w cb (12 * i), old w] ∧ Calm w wr) (fun v _ => 5 - viN v)
  case atStart => exact hT1
  case round =>
    clear hT1 o1 k1 oW
    obtain ⟨i, rfl, hi, oR, kR⟩ := hrel
    by_cases hlt : i < 5
    rotate_left
    · have dl : decide (i < 5) = false := decide_eq_false hlt
      by_cases hb : 200 < p.size
      · have db : decide (200 < p.size) = true := decide_eq_true hb
        go_wp2
        go_ret
        exact ⟨rfl, oR.swap.below kR⟩
      · have db : decide (200 < p.size) = false := decide_eq_false hb
        go_wp2_with fail
        refine (HP.out _ _ p (by omega) oR.swap).mono ?_
        rintro e3 w3 ⟨rfl, o3, k3⟩
        go_wp2_with fail
        refine (HA.out _ _ o3).mono ?_
        rintro e4 w4 ⟨rfl, o4, k4⟩
        go_wp2
        go_ret
        exact ⟨rfl, o4.below (kR.trans (k3.trans k4))⟩
    have dl : decide (i < 5) = true := decide_eq_true hlt
    go_wp2_with fail
    refine (genRule_spec (12 * i) (by omega) oR).mono ?_
    rintro e2 w2 ⟨r, hr, rfl, o2, k2⟩
    have hF := refFormat_spec r (by have := hr.len; omega) o2
    have hfl := fmtR_len hr.ok
    have hfv : fmtV r = .tuple #[.string (mkB (fmtR r)), .int .i64 0] := by unfold fmtV; rw [hr.ok]; rfl
    rw [hfv] at hF
    obtain ⟨x, hx⟩ : ∃ x, mkB (fmtR r) = x := ⟨_, rfl⟩
    have sx1 : 1 ≤ x.size := by rw [← hx]; exact hfl.1
    have sx2 : x.size ≤ 120 := by rw [← hx]; exact hfl.2
    rw [hx] at hF
    clear hfv hfl hr hx
    unfold ruV at hF ⊢
    generalize mkB r.st = S at *
    go_wp2_with fail
    refine hF.mono ?_
    rintro e3 w3 ⟨rfl, oQ, k3⟩
    have kQ := kR.trans (k2.trans k3)
    clear hF o2 k2 k3 oR kR
    have hr : True := trivial
    have oQ : Own w3 [Ch w cb (12 * i + 6), old w] := oQ
    obtain ⟨M, hM⟩ : ∃ M, 12 * i + 6 = M := ⟨_, rfl⟩
    have hM2 : M ≤ 70 := by omega
    rw [hM] at oQ
    go_upto_region 6 with fail
    go_cut [9] (fun v wc => WMid w cb (M + 4) [] w v wc)
    case first =>
      refine wp_region_draws (fun L v wc => Own wc (Ch w cb (M + dOne (L 1) + dOne (L 5) + dOne (L 12) + dOne (L 19)) :: old w :: Tb (L 3) (v 3) 9 [.string ⟨#[42]⟩, .string ⟨#[51]⟩, .string ⟨#[56]⟩, .string ⟨#[45, 49]⟩, .string ⟨#[48, 51]⟩, .string ⟨#[57, 57, 57, 57, 57]⟩, .string ⟨#[49, 50, 51, 52, 53, 54]⟩] :: Tb (L 10) (v 10) 9 [.string ⟨#[42]⟩, .string ⟨#[53]⟩, .string ⟨#[53, 45, 53]⟩, .string ⟨#[48, 45, 54, 53, 53, 51, 53]⟩, .string ⟨#[57, 45, 49]⟩, .string ⟨#[49, 45]⟩, .string ⟨#[54, 53, 53, 51, 54]⟩, .string ⟨#[48, 48]⟩] :: Tb (L 17) (v 17) 9 [.string ⟨#[62, 48]⟩, .string ⟨#[62, 51, 49]⟩, .string ⟨#[62, 51, 50]⟩, .string ⟨#[49]⟩, .string ⟨#[62]⟩, .string ⟨#[62, 32, 49]⟩, .string ⟨#[62, 48, 49]⟩] :: []) ∧ Calm w wc ∧
        TD L v cb 3 4 5 6 7 [.string ⟨#[42]⟩, .string ⟨#[51]⟩, .string ⟨#[56]⟩, .string ⟨#[45, 49]⟩, .string ⟨#[48, 51]⟩, .string ⟨#[57, 57, 57, 57, 57]⟩, .string ⟨#[49, 50, 51, 52, 53, 54]⟩] ∧ TD L v cb 10 11 12 13 14 [.string ⟨#[42]⟩, .string ⟨#[53]⟩, .string ⟨#[53, 45, 53]⟩, .string ⟨#[48, 45, 54, 53, 53, 51, 53]⟩, .string ⟨#[57, 45, 49]⟩, .string ⟨#[49, 45]⟩, .string ⟨#[54, 53, 53, 51, 54]⟩, .string ⟨#[48, 48]⟩] ∧ TD L v cb 17 18 19 20 21 [.string ⟨#[62, 48]⟩, .string ⟨#[62, 51, 49]⟩, .string ⟨#[62, 51, 50]⟩, .string ⟨#[49]⟩, .string ⟨#[62]⟩, .string ⟨#[62, 32, 49]⟩, .string ⟨#[62, 48, 49]⟩] ∧ PVals (fun i => ([(fun x => x = .pointer (some ⟨cb, 0, none⟩)), strP 25, strP 26, anyP, anyP, anyP, anyP, strP 7, strP 33, strP 34, anyP, anyP, anyP, anyP, strP 7, strP 41, strP 42, anyP, anyP, anyP, anyP, strP 7, strP 49, strP 49] : List (Value → Prop)).getD i anyP) L v) (by kernel_rfl) (by kernel_rfl) (by kernel_rfl) ?h0 ?step ?fin
      case h0 => exact ⟨((Tb.no (Tb.no (Tb.no oQ))).re [3, 4, 2, 1, 0]).same rfl, ⟨kQ.os, kQ.tape, kQ.output⟩, TD.no, TD.no, TD.no, PVals.no⟩
      case step =>
        refine ⟨DrawStep.mk rfl ?_, DrawStep.mk rfl ?_, DrawStep.mk rfl ?_, DrawStep.mk rfl ?_, DrawStep.mk rfl ?_, DrawStep.mk rfl ?_, DrawStep.mk rfl ?_, DrawStep.mk rfl ?_, DrawStep.mk rfl ?_, DrawStep.mk rfl ?_, DrawStep.mk rfl ?_, DrawStep.mk rfl ?_, DrawStep.mk rfl ?_, DrawStep.mk rfl ?_, DrawStep.mk rfl ?_, DrawStep.mk rfl ?_, DrawStep.mk rfl ?_, DrawStep.mk rfl ?_, DrawStep.mk rfl ?_, DrawStep.mk rfl ?_, DrawStep.mk rfl ?_, DrawStep.mk rfl ?_, DrawStep.mk rfl ?_, DrawStep.mk rfl ?_, trivial⟩
        all_goals intro L v ac wc hL hd hA hI K' hK
        all_goals obtain ⟨oD, kD, t1, t2, t3, pv⟩ := hI
        all_goals simp [Region.binds] at hd
        all_goals have b1 := dOne_le (L 1)
        all_goals have b2 := dOne_le (L 5)
        all_goals have b3 := dOne_le (L 12)
        all_goals have b4 := dOne_le (L 19)
        · have c0 := hA.base 5 (by rfl)
          simp only [List.getElem?_toArray, List.getElem?_cons_zero, List.getElem?_cons_succ, Option.getD_some] at c0
          go_simp
          exact hK.out _ _ ⟨oD, kD, t1.other _ hL (by decide), t2.other _ hL (by decide), t3.other _ hL (by decide), pv.put 0 rfl⟩
        · have h0 : L 0 = true := by simp [hd]
          have c1 := (hA.get 0 h0).trans (pv 0 h0)
          go_simp
          rw [hL] at oD
          refine (genName_spec _ (by rw [dOne_no]; omega) oD).mono ?_
          rintro e6 w6 ⟨s, hs, rfl, o6, k6⟩
          exact hK.out _ _ ⟨Ch.upTo (by show _ ≤ M + dOne true + dOne (L 5) + dOne (L 12) + dOne (L 19); rw [dOne_no, dOne_yes]; omega) o6, kD.trans k6, t1.other _ hL (by decide), t2.other _ hL (by decide), t3.other _ hL (by decide), pv.put 1 ⟨s, hs, rfl⟩⟩
        · have h1 : L 1 = true := by simp [hd]
          obtain ⟨s, hs, hv⟩ := pv 1 h1
          have hs : s.size ≤ 25 := hs
          have c1 := (hA.get 1 h1).trans hv
          have hno : ¬ 9223372036854775807 < s.size + 1 := by omega
          go_simp
          exact hK.out _ _ ⟨oD, kD, t1.other _ hL (by decide), t2.other _ hL (by decide), t3.other _ hL (by decide), pv.put 2 ⟨s ++ ⟨#[32]⟩, by rw [ByteArray.size_append]; have : (⟨#[32]⟩ : ByteArray).size = 1 := rfl; omega, rfl⟩⟩
        · go_simp
          rw [hL] at oD
          exact hK.out _ _ ⟨(Tb.new (oD.up 2) _ (((oD.up 2).alloc (.cells #[Value.string ⟨#[42]⟩, Value.string ⟨#[51]⟩, Value.string ⟨#[56]⟩, Value.string ⟨#[45, 49]⟩, Value.string ⟨#[48, 51]⟩, Value.string ⟨#[57, 57, 57, 57, 57]⟩, Value.string ⟨#[49, 50, 51, 52, 53, 54]⟩] 9)))).re [1, 2, 0], ⟨kD.os, kD.tape, kD.output⟩, t1.other _ hL (by decide), t2.other _ hL (by decide), t3.other _ hL (by decide), pv.put 3 trivial⟩
        · have c0 := hA.base 5 (by rfl)
          simp only [List.getElem?_toArray, List.getElem?_cons_zero, List.getElem?_cons_succ, Option.getD_some] at c0
          go_simp
          exact hK.out _ _ ⟨oD, kD, t1.doMove hL (by decide), t2.other _ hL (by decide), t3.other _ hL (by decide), pv.put 4 trivial⟩
        · have h4 : L 4 = true := by simp [hd]
          have c0 := (hA.get 4 h4).trans (t1.move h4)
          go_simp
          rw [hL] at oD
          refine (next_spec w cb _ 7 _ _ (by omega) (by omega) (by rw [dOne_no]; omega) oD).mono ?_
          rintro e6 w6 ⟨z, hz0, hz1, rfl, o6, k6⟩
          obtain ⟨j, rfl⟩ : ∃ j : Nat, z = (j : Int) := ⟨z.toNat, by omega⟩
          exact hK.out _ _ ⟨Ch.upTo (by show _ ≤ M + dOne (L 1) + dOne true + dOne (L 12) + dOne (L 19); rw [dOne_no, dOne_yes]; omega) o6, kD.trans k6, t1.doCall hL (by decide) (show j < 7 by omega), t2.other _ hL (by decide), t3.other _ hL (by decide), pv.put 5 trivial⟩
        · have h3 : L 3 = true := by simp [hd]
          have h5 : L 5 = true := by simp [hd]
          obtain ⟨j, hj, hv⟩ := t1.call h5
          rw [h3] at oD
          have c0 := hA.get 3 h3
          have c2 := (hA.get 5 h5).trans hv
          obtain ⟨g, hg⟩ := Tb.val (oD.up 2)
          rw [hg] at c0
          have hj' : (j : Int) < 7 := by have h4 : j < 7 := hj; omega
          go_simp
          exact hK.out _ _ ⟨by rw [← h3] at oD; exact oD, kD, t1.doAddr hL (by decide) h3 hj hg, t2.other _ hL (by decide), t3.other _ hL (by decide), pv.put 6 trivial⟩
        · have h6 : L 6 = true := by simp [hd]
          obtain ⟨h0, g, j, hj, h1, h2⟩ := t1.addr h6
          rw [h0, h1] at oD
          have c3 := (hA.get 6 h6).trans h2
          have cc := Tb.at (oD.up 2) hj
          have hx : ([.string ⟨#[42]⟩, .string ⟨#[51]⟩, .string ⟨#[56]⟩, .string ⟨#[45, 49]⟩, .string ⟨#[48, 51]⟩, .string ⟨#[57, 57, 57, 57, 57]⟩, .string ⟨#[49, 50, 51, 52, 53, 54]⟩] : List Value)[j] ∈ ([.string ⟨#[42]⟩, .string ⟨#[51]⟩, .string ⟨#[56]⟩, .string ⟨#[45, 49]⟩, .string ⟨#[48, 51]⟩, .string ⟨#[57, 57, 57, 57, 57]⟩, .string ⟨#[49, 50, 51, 52, 53, 54]⟩] : List Value) := List.getElem_mem hj
          obtain ⟨s, hs, hv⟩ := tb0 hx
          generalize ([.string ⟨#[42]⟩, .string ⟨#[51]⟩, .string ⟨#[56]⟩, .string ⟨#[45, 49]⟩, .string ⟨#[48, 51]⟩, .string ⟨#[57, 57, 57, 57, 57]⟩, .string ⟨#[49, 50, 51, 52, 53, 54]⟩] : List Value)[j] = y at *
          subst hv
          go_simp
          exact hK.out _ _ ⟨by rw [← h0, ← h1] at oD; exact oD, kD, t1.doLoad hL (by decide) hx, t2.other _ hL (by decide), t3.other _ hL (by decide), pv.put 7 ⟨s, hs, rfl⟩⟩
        · have h2 : L 2 = true := by simp [hd]
          have h7 : L 7 = true := by simp [hd]
          obtain ⟨s, hs, hv⟩ := pv 2 h2
          obtain ⟨s2, hs2, hv2⟩ := pv 7 h7
          have hs : s.size ≤ 26 := hs
          have hs2 : s2.size ≤ 7 := hs2
          have c1 := (hA.get 2 h2).trans hv
          have c2 := (hA.get 7 h7).trans hv2
          have hno : ¬ 9223372036854775807 < s.size + s2.size := by omega
          go_simp
          exact hK.out _ _ ⟨oD, kD, t1.other _ hL (by decide), t2.other _ hL (by decide), t3.other _ hL (by decide), pv.put 8 ⟨s ++ s2, by rw [ByteArray.size_append]; omega, rfl⟩⟩
        · have h8 : L 8 = true := by simp [hd]
          obtain ⟨s, hs, hv⟩ := pv 8 h8
          have hs : s.size ≤ 33 := hs
          have c1 := (hA.get 8 h8).trans hv
          have hno : ¬ 9223372036854775807 < s.size + 1 := by omega
          go_simp
          exact hK.out _ _ ⟨oD, kD, t1.other _ hL (by decide), t2.other _ hL (by decide), t3.other _ hL (by decide), pv.put 9 ⟨s ++ ⟨#[32]⟩, by rw [ByteArray.size_append]; have : (⟨#[32]⟩ : ByteArray).size = 1 := rfl; omega, rfl⟩⟩
        · go_simp
          rw [hL] at oD
          exact hK.out _ _ ⟨(Tb.new (oD.up 3) _ (((oD.up 3).alloc (.cells #[Value.string ⟨#[42]⟩, Value.string ⟨#[53]⟩, Value.string ⟨#[53, 45, 53]⟩, Value.string ⟨#[48, 45, 54, 53, 53, 51, 53]⟩, Value.string ⟨#[57, 45, 49]⟩, Value.string ⟨#[49, 45]⟩, Value.string ⟨#[54, 53, 53, 51, 54]⟩, Value.string ⟨#[48, 48]⟩] 9)))).re [1, 2, 3, 0], ⟨kD.os, kD.tape, kD.output⟩, t1.other _ hL (by decide), t2.other _ hL (by decide), t3.other _ hL (by decide), pv.put 10 trivial⟩
        · have c0 := hA.base 5 (by rfl)
          simp only [List.getElem?_toArray, List.getElem?_cons_zero, List.getElem?_cons_succ, Option.getD_some] at c0
          go_simp
          exact hK.out _ _ ⟨oD, kD, t1.other _ hL (by decide), t2.doMove hL (by decide), t3.other _ hL (by decide), pv.put 11 trivial⟩
        · have h11 : L 11 = true := by simp [hd]
          have c0 := (hA.get 11 h11).trans (t2.move h11)
          go_simp
          rw [hL] at oD
          refine (next_spec w cb _ 8 _ _ (by omega) (by omega) (by rw [dOne_no]; omega) oD).mono ?_
          rintro e6 w6 ⟨z, hz0, hz1, rfl, o6, k6⟩
          obtain ⟨j, rfl⟩ : ∃ j : Nat, z = (j : Int) := ⟨z.toNat, by omega⟩
          exact hK.out _ _ ⟨Ch.upTo (by show _ ≤ M + dOne (L 1) + dOne (L 5) + dOne true + dOne (L 19); rw [dOne_no, dOne_yes]; omega) o6, kD.trans k6, t1.other _ hL (by decide), t2.doCall hL (by decide) (show j < 8 by omega), t3.other _ hL (by decide), pv.put 12 trivial⟩
        · have h10 : L 10 = true := by simp [hd]
          have h12 : L 12 = true := by simp [hd]
          obtain ⟨j, hj, hv⟩ := t2.call h12
          rw [h10] at oD
          have c0 := hA.get 10 h10
          have c2 := (hA.get 12 h12).trans hv
          obtain ⟨g, hg⟩ := Tb.val (oD.up 3)
          rw [hg] at c0
          have hj' : (j : Int) < 8 := by have h4 : j < 8 := hj; omega
          go_simp
          exact hK.out _ _ ⟨by rw [← h10] at oD; exact oD, kD, t1.other _ hL (by decide), t2.doAddr hL (by decide) h10 hj hg, t3.other _ hL (by decide), pv.put 13 trivial⟩
        · have h13 : L 13 = true := by simp [hd]
          obtain ⟨h0, g, j, hj, h1, h2⟩ := t2.addr h13
          rw [h0, h1] at oD
          have c3 := (hA.get 13 h13).trans h2
          have cc := Tb.at (oD.up 3) hj
          have hx : ([.string ⟨#[42]⟩, .string ⟨#[53]⟩, .string ⟨#[53, 45, 53]⟩, .string ⟨#[48, 45, 54, 53, 53, 51, 53]⟩, .string ⟨#[57, 45, 49]⟩, .string ⟨#[49, 45]⟩, .string ⟨#[54, 53, 53, 51, 54]⟩, .string ⟨#[48, 48]⟩] : List Value)[j] ∈ ([.string ⟨#[42]⟩, .string ⟨#[53]⟩, .string ⟨#[53, 45, 53]⟩, .string ⟨#[48, 45, 54, 53, 53, 51, 53]⟩, .string ⟨#[57, 45, 49]⟩, .string ⟨#[49, 45]⟩, .string ⟨#[54, 53, 53, 51, 54]⟩, .string ⟨#[48, 48]⟩] : List Value) := List.getElem_mem hj
          obtain ⟨s, hs, hv⟩ := tb1 hx
          generalize ([.string ⟨#[42]⟩, .string ⟨#[53]⟩, .string ⟨#[53, 45, 53]⟩, .string ⟨#[48, 45, 54, 53, 53, 51, 53]⟩, .string ⟨#[57, 45, 49]⟩, .string ⟨#[49, 45]⟩, .string ⟨#[54, 53, 53, 51, 54]⟩, .string ⟨#[48, 48]⟩] : List Value)[j] = y at *
          subst hv
          go_simp
          exact hK.out _ _ ⟨by rw [← h0, ← h1] at oD; exact oD, kD, t1.other _ hL (by decide), t2.doLoad hL (by decide) hx, t3.other _ hL (by decide), pv.put 14 ⟨s, hs, rfl⟩⟩
        · have h9 : L 9 = true := by simp [hd]
          have h14 : L 14 = true := by simp [hd]
          obtain ⟨s, hs, hv⟩ := pv 9 h9
          obtain ⟨s2, hs2, hv2⟩ := pv 14 h14
          have hs : s.size ≤ 34 := hs
          have hs2 : s2.size ≤ 7 := hs2
          have c1 := (hA.get 9 h9).trans hv
          have c2 := (hA.get 14 h14).trans hv2
          have hno : ¬ 9223372036854775807 < s.size + s2.size := by omega
          go_simp
          exact hK.out _ _ ⟨oD, kD, t1.other _ hL (by decide), t2.other _ hL (by decide), t3.other _ hL (by decide), pv.put 15 ⟨s ++ s2, by rw [ByteArray.size_append]; omega, rfl⟩⟩
        · have h15 : L 15 = true := by simp [hd]
          obtain ⟨s, hs, hv⟩ := pv 15 h15
          have hs : s.size ≤ 41 := hs
          have c1 := (hA.get 15 h15).trans hv
          have hno : ¬ 9223372036854775807 < s.size + 1 := by omega
          go_simp
          exact hK.out _ _ ⟨oD, kD, t1.other _ hL (by decide), t2.other _ hL (by decide), t3.other _ hL (by decide), pv.put 16 ⟨s ++ ⟨#[32]⟩, by rw [ByteArray.size_append]; have : (⟨#[32]⟩ : ByteArray).size = 1 := rfl; omega, rfl⟩⟩
        · go_simp
          rw [hL] at oD
          exact hK.out _ _ ⟨(Tb.new (oD.up 4) _ (((oD.up 4).alloc (.cells #[Value.string ⟨#[62, 48]⟩, Value.string ⟨#[62, 51, 49]⟩, Value.string ⟨#[62, 51, 50]⟩, Value.string ⟨#[49]⟩, Value.string ⟨#[62]⟩, Value.string ⟨#[62, 32, 49]⟩, Value.string ⟨#[62, 48, 49]⟩] 9)))).re [1, 2, 3, 4, 0], ⟨kD.os, kD.tape, kD.output⟩, t1.other _ hL (by decide), t2.other _ hL (by decide), t3.other _ hL (by decide), pv.put 17 trivial⟩
        · have c0 := hA.base 5 (by rfl)
          simp only [List.getElem?_toArray, List.getElem?_cons_zero, List.getElem?_cons_succ, Option.getD_some] at c0
          go_simp
          exact hK.out _ _ ⟨oD, kD, t1.other _ hL (by decide), t2.other _ hL (by decide), t3.doMove hL (by decide), pv.put 18 trivial⟩
        · have h18 : L 18 = true := by simp [hd]
          have c0 := (hA.get 18 h18).trans (t3.move h18)
          go_simp
          rw [hL] at oD
          refine (next_spec w cb _ 7 _ _ (by omega) (by omega) (by rw [dOne_no]; omega) oD).mono ?_
          rintro e6 w6 ⟨z, hz0, hz1, rfl, o6, k6⟩
          obtain ⟨j, rfl⟩ : ∃ j : Nat, z = (j : Int) := ⟨z.toNat, by omega⟩
          exact hK.out _ _ ⟨Ch.upTo (by show _ ≤ M + dOne (L 1) + dOne (L 5) + dOne (L 12) + dOne true; rw [dOne_no, dOne_yes]; omega) o6, kD.trans k6, t1.other _ hL (by decide), t2.other _ hL (by decide), t3.doCall hL (by decide) (show j < 7 by omega), pv.put 19 trivial⟩
        · have h17 : L 17 = true := by simp [hd]
          have h19 : L 19 = true := by simp [hd]
          obtain ⟨j, hj, hv⟩ := t3.call h19
          rw [h17] at oD
          have c0 := hA.get 17 h17
          have c2 := (hA.get 19 h19).trans hv
          obtain ⟨g, hg⟩ := Tb.val (oD.up 4)
          rw [hg] at c0
          have hj' : (j : Int) < 7 := by have h4 : j < 7 := hj; omega
          go_simp
          exact hK.out _ _ ⟨by rw [← h17] at oD; exact oD, kD, t1.other _ hL (by decide), t2.other _ hL (by decide), t3.doAddr hL (by decide) h17 hj hg, pv.put 20 trivial⟩
        · have h20 : L 20 = true := by simp [hd]
          obtain ⟨h0, g, j, hj, h1, h2⟩ := t3.addr h20
          rw [h0, h1] at oD
          have c3 := (hA.get 20 h20).trans h2
          have cc := Tb.at (oD.up 4) hj
          have hx : ([.string ⟨#[62, 48]⟩, .string ⟨#[62, 51, 49]⟩, .string ⟨#[62, 51, 50]⟩, .string ⟨#[49]⟩, .string ⟨#[62]⟩, .string ⟨#[62, 32, 49]⟩, .string ⟨#[62, 48, 49]⟩] : List Value)[j] ∈ ([.string ⟨#[62, 48]⟩, .string ⟨#[62, 51, 49]⟩, .string ⟨#[62, 51, 50]⟩, .string ⟨#[49]⟩, .string ⟨#[62]⟩, .string ⟨#[62, 32, 49]⟩, .string ⟨#[62, 48, 49]⟩] : List Value) := List.getElem_mem hj
          obtain ⟨s, hs, hv⟩ := tb2 hx
          generalize ([.string ⟨#[62, 48]⟩, .string ⟨#[62, 51, 49]⟩, .string ⟨#[62, 51, 50]⟩, .string ⟨#[49]⟩, .string ⟨#[62]⟩, .string ⟨#[62, 32, 49]⟩, .string ⟨#[62, 48, 49]⟩] : List Value)[j] = y at *
          subst hv
          go_simp
          exact hK.out _ _ ⟨by rw [← h0, ← h1] at oD; exact oD, kD, t1.other _ hL (by decide), t2.other _ hL (by decide), t3.doLoad hL (by decide) hx, pv.put 21 ⟨s, hs, rfl⟩⟩
        · have h16 : L 16 = true := by simp [hd]
          have h21 : L 21 = true := by simp [hd]
          obtain ⟨s, hs, hv⟩ := pv 16 h16
          obtain ⟨s2, hs2, hv2⟩ := pv 21 h21
          have hs : s.size ≤ 42 := hs
          have hs2 : s2.size ≤ 7 := hs2
          have c1 := (hA.get 16 h16).trans hv
          have c2 := (hA.get 21 h21).trans hv2
          have hno : ¬ 9223372036854775807 < s.size + s2.size := by omega
          go_simp
          exact hK.out _ _ ⟨oD, kD, t1.other _ hL (by decide), t2.other _ hL (by decide), t3.other _ hL (by decide), pv.put 22 ⟨s ++ s2, by rw [ByteArray.size_append]; omega, rfl⟩⟩
        · have h22 : L 22 = true := by simp [hd]
          obtain ⟨s, hs, hv⟩ := pv 22 h22
          have c1 := (hA.get 22 h22).trans hv
          go_simp
          exact hK.out _ _ ⟨oD, kD, t1.other _ hL (by decide), t2.other _ hL (by decide), t3.other _ hL (by decide), pv.put 23 ⟨s, hs, rfl⟩⟩
      case fin =>
        rintro L v wc hall ⟨oD, kD, t1, t2, t3, pv⟩
        obtain ⟨s, hs, hv⟩ := pv 23 (hall 23 (by decide))
        rw [hall 1 (by decide), hall 5 (by decide), hall 12 (by decide), hall 19 (by decide)] at oD
        clear t1 t2 t3 pv hall
        simp only [putAll, Act.put, List.setIfInBounds_toArray, List.set_cons_zero, List.set_cons_succ]
        go_wp2
        go_meet
        exact ⟨s, hs, hv, (Ch.upTo (by rw [dOne_yes]; omega) oD |>.re [2, 3, 4]).drop.drop.drop, kD⟩
    case rest =>
    obtain ⟨q, hq, rfl, o5, k5⟩ := hcut
    have hcv := Lib.run_convert_string_bytes wc 9 34 5 x Tryd.underlying9 Tryd.underlying34 Tryd.underlying5
    obtain ⟨sp, m, m', hbm, o6⟩ := own_bytes (T := 5) o5 x
    have hxl : x.data.toList.length = x.size := (Lib.size_eq x).symm
    have kB := Lib.bytesWorld_below wc 5 x
    have k6 : Calm w (Lib.bytesWorld wc 5 x) := k5.trans ⟨kB.os, kB.tape, kB.output⟩
    generalize Lib.bytesWorld wc 5 x = wB at *
    generalize wc.heap.size = g at *
    have hcap : x.size ≤ grownCap wc x.size 0 5 := grownCap_ge _ _ _ _
    generalize grownCap wc x.size 0 5 = cc at *
    obtain ⟨bs, hbs⟩ : ∃ bs, x.data.toList = bs := ⟨_, rfl⟩
    rw [hbs] at o6 hbm hxl
    clear hbs o5 k5 kB hr
    have o7 := o6.re [1, 2, 0]
    go_wp2_with fail
    refine (next_spec w cb (M + 4) (x.size : Int) _ _ (by omega) (by omega) (by omega) o7).mono ?_
    rintro e5 w5 ⟨y, hy0, hy1, rfl, o8, k8⟩
    obtain ⟨k, rfl⟩ : ∃ k : Nat, y = (k : Int) := ⟨y.toNat, by omega⟩
    have o9 : Own (w5.alloc (.cells #[.int .u8 32, .int .u8 42, .int .u8 45, .int .u8 62, .int .u8 48, .int .u8 57, .int .u8 97] 5 (7, 8))) (Ch w cb (M + 4 + 1) :: old w :: SP.blk g (.cells (byV bs ++ sp).toArray 5 (m, m')) :: SP.blk w5.heap.size (.cells (byV [32, 42, 45, 62, 48, 57, 97] ++ []).toArray 5 (7, 8)) :: []) := (o8.alloc _).re [1, 2, 3, 0]
    have hcb : (convert 34 34 (.slice (some ⟨w5.heap.size, 0, none⟩) 7 7)).run Tryd.prog (w5.alloc (.cells #[.int .u8 32, .int .u8 42, .int .u8 45, .int .u8 62, .int .u8 48, .int .u8 57, .int .u8 97] 5)) = .ok (.slice (some ⟨w5.heap.size, 0, none⟩) 7 7) (w5.alloc (.cells #[.int .u8 32, .int .u8 42, .int .u8 45, .int .u8 62, .int .u8 48, .int .u8 57, .int .u8 97] 5 (7, 8))) := Lib.run_convert_bytes_const w5 34 5 _ 7 7 Tryd.underlying34 Tryd.underlying5
    go_wp2_with fail
    refine (next_spec w cb (M + 4 + 1) 7 _ _ (by omega) (by omega) (by omega) o9).mono ?_
    rintro e6 w6 ⟨z, hz0, hz1, rfl, o10, k10⟩
    obtain ⟨j, rfl⟩ : ∃ j : Nat, z = (j : Int) := ⟨z.toNat, by omega⟩
    have tb := o10.up 3
    have hj7 : j < ([32, 42, 45, 62, 48, 57, 97] : List UInt8).length := by show j < 7; omega
    have hu := byt_cell tb (List.getElem?_eq_getElem hj7)
    generalize ([32, 42, 45, 62, 48, 57, 97] : List UInt8)[j] = u at *
    have ob := o10.up 2
    have hkl : k < bs.length := by omega
    have hck := byt_cell ob (List.getElem?_eq_getElem hkl)
    have hcf := byt_frozen ob (i := k) (by omega)
    have hcl := Own.lt ob
    have oS := byt_set ob k hkl u
    have kS : Calm w (w6.setCell ⟨g, k, none⟩ (.int .u8 (u.toNat : Int))) := calmS (k6.trans (k8.trans (Calm.al k10)))
    obtain ⟨x1, q1⟩ : ∃ t, x ++ (⟨#[32]⟩ : ByteArray) = t := ⟨_, rfl⟩
    obtain ⟨x2, q2⟩ : ∃ t, (⟨#[32]⟩ : ByteArray) ++ x = t := ⟨_, rfl⟩
    have l1 : (⟨#[32]⟩ : ByteArray).size = 1 := rfl
    have n1 : x1.size ≤ 121 := by rw [← q1, ByteArray.size_append]; omega
    have n2 : x2.size ≤ 121 := by rw [← q2, ByteArray.size_append]; omega
    have hkx : (k : Int) < (x.size : Int) := by omega
    clear l1 tb
    go_wp2_with fail
    refine (HP.out _ _ x (by omega) (oS.up 2)).mono ?_
    rintro e7 w7 ⟨rfl, o11, k11⟩
    go_wp2_with fail
    refine (HP.out _ _ q (by omega) o11).mono ?_
    rintro e8 w8 ⟨rfl, o12, k12⟩
    have hsl : (bs.set k u).length = x.size := by rw [List.length_set]; exact hxl
    have hcs := run_convert_bytes_arg (w := w8) 34 5 Tryd.underlying34 Tryd.underlying5 g 0 x.size cc ((bs.set k u).map fun b => (b.toNat : Int)) (by rw [List.length_map]; exact hsl) (byt_string (o12.up 1) hsl) 9 Tryd.underlying9
    have hcz := strOf_size ((bs.set k u).map fun b => (b.toNat : Int))
    rw [List.length_map, hsl] at hcz
    generalize strOfNums ((bs.set k u).map fun b => (b.toNat : Int)) = t at *
    go_wp2_with fail
    refine (HP.out _ _ t (by omega) o12).mono ?_
    rintro e9 w9 ⟨rfl, o13, k13⟩
    go_wp2_with fail
    refine (HP.out _ _ x1 (by omega) o13).mono ?_
    rintro e10 w10 ⟨rfl, o14, k14⟩
    go_wp2_with fail
    refine (HP.out _ _ x2 (by omega) o14).mono ?_
    rintro e11 w11 ⟨rfl, o15, k15⟩
    go_wp2
    go_roundw
    case rel => exact ⟨i + 1, by go_num, by omega, Ch.upTo (N := M + 4 + 1 + 1) (M := 12 * (i + 1)) (by omega) ((o15.re [1, 3]).drop.drop).swap, kS.trans (k11.trans (k12.trans (k13.trans (k14.trans k15))))⟩
    case measure => simp [viN]; omega

end
end Go.Proofs.YtbldanhjbnpdiaaDoor
