/- Rules: the program's Format (printed by genfmt.py). -/
import Derived.Test.YtbldanhjbnpdiaaDoorRuL
import Derived.Test.YtbldanhjbnpdiaaDoorDrawV
namespace Go.Proofs.YtbldanhjbnpdiaaDoor
open Go.RowKit
open Go.Shelf
open SP
section
variable {W w w' : World} {R : List SP}
def TabsP (w : World) : Prop := Lib.TabIs Tryd.prog w "internal/strconv.uint64pow10" .u64 Lib.pow10Tab
theorem Own.tabsP (hT : TabsP W) (o : Own w (old W :: R)) : TabsP w := by
  obtain ⟨g1, h1⟩ := Option.isSome_iff_exists.1 (show (Tryd.prog.globalNamed "internal/strconv.uint64pow10").isSome = true by kernel_rfl)
  exact Own.var h1 hT o
theorem ruItoa_spec (n : Int) (h0 : -9223372036854775808 ≤ n) (h1 : n ≤ 9223372036854775807) (hT : TabsP W) (o : Own w (old W :: R)) :
    Calls Tryd.prog 19 #[.int .i64 n] w (Ret (.string (mkB (Lib.itoa n))) (old W :: R) w) := by
  refine (Any.strconv_Itoa Tryd.itoa n h0 h1 w (Own.tabsP hT o)).mono ?_
  rintro e w' ⟨rfl, k, os, rfl⟩
  have hb := below_grow w k os
  exact ⟨rfl, Own.keepBelow o hb, Calm.ofBelow hb⟩
theorem Tryd.extraJ : Builder.Extra Tryd.prog Tryd.join_ren where
  sizeBuilder := by kernel_rfl
  liesBuilder := by kernel_rfl
  t5 := by kernel_rfl
  a5 := fun w => by kernel_rfl
  z5 := fun w => by kernel_rfl
  v5 := fun w => by kernel_rfl
  infoByte := by kernel_rfl
  cellsByte := by kernel_rfl
  sizeByte := by kernel_rfl
  neB5 := by decide
theorem join4 (a b c d : List UInt8) : Lib.join ([mkB a, mkB b, mkB c, mkB d].map (·.data.toList)) [32] = a ++ [32] ++ b ++ [32] ++ c ++ [32] ++ d := by
  simp [Lib.join, mkB_data]
/-- Join of four words in a block. -/
theorem join_spec (g : Nat) (a b c d : List UInt8) (hz : a.length + b.length + c.length + d.length ≤ 1000) (o : Own w (cel g 9 [.string (mkB a), .string (mkB b), .string (mkB c), .string (mkB d)] :: R)) :
    Calls Tryd.prog 20 #[.slice (some ⟨g, 0, none⟩) 4 4, .string ⟨#[32]⟩] w (Ret (.string (mkB (a ++ [32] ++ b ++ [32] ++ c ++ [32] ++ d))) (cel g 9 [.string (mkB a), .string (mkB b), .string (mkB c), .string (mkB d)] :: R) w) := by
  have hl := join4 a b c d
  have hlt : g < w.heap.size := Own.celLt o
  have := Any.strings_Join Tryd.join Tryd.extraJ g 0 4 [mkB a, mkB b, mkB c, mkB d] ⟨#[32]⟩ w (fun j x h => ?_) hlt (by simp) (by simp) (by rw [show (⟨#[32]⟩ : ByteArray).data.toList = [32] from rfl, hl]; simp only [List.length_append, List.length_cons, List.length_nil]; omega)
  · rw [show (⟨#[32]⟩ : ByteArray).data.toList = [32] from rfl, hl] at this
    refine this.mono ?_
    rintro e w' ⟨rfl, hb⟩
    exact ⟨rfl, Own.keepBelow o hb, Calm.ofBelow hb⟩
  · have hj4 : j < 4 := (List.getElem?_eq_some_iff.1 h).1
    rw [Nat.zero_add]
    match j, hj4, h with
    | 0, _, h => cases h; exact o.cell 0
    | 1, _, h => cases h; exact o.cell 1
    | 2, _, h => cases h; exact o.cell 2
    | 3, _, h => cases h; exact o.cell 3
set_option maxHeartbeats 12800000 in
set_option maxRecDepth 100000 in
theorem ruFormat_spec (r : Ru) (hs : r.st.length ≤ 2000000) (hT : TabsP W) (o : Own w (old W :: R)) : Calls Tryd.prog 12 #[ruV r] w (Ret (fmtV r) (old W :: R) w) := by
  have o1 := o.alloc (.cells #[.string (mkB r.st), .int .i64 r.cls, .int .i64 r.first, .int .i64 r.last, .int .i64 r.flow] 29)
  have hV := ruValid_spec r hs o1
  cases hok : ruOK r with
  | false =>
    have hv : fmtV r = .tuple #[.string ⟨#[]⟩, .int .i64 1] := by unfold fmtV; rw [hok]; rfl
    rw [hv]
    rw [hok] at hV
    unfold ruV at hV ⊢
    clear hv hok
    go_enter Tryd.func12, Tryd.ntmps12
    go_wp2_with fail
    refine hV.mono ?_
    rintro e1 w1 ⟨rfl, o2, k2⟩
    go_wp2
    go_ret2
    exact ⟨rfl, o2.drop, k2.al⟩
  | true =>
    have hv : fmtV r = .tuple #[.string (mkB (fmtR r)), .int .i64 0] := by unfold fmtV; rw [hok]; rfl
    have hq := ruOK_iff hok
    have z1 := stW_len hok
    have z2 := clW_len hok
    have z3 := poW_len hok
    have z4 := decI_len r.flow (by omega)
    rw [hv]
    rw [hok] at hV
    clear hv hok
    have H1 := Lib.hid fun (w1 : World) (R1 : List SP) (o1 : Own w1 (old W :: R1)) => ruItoa_spec r.cls (by omega) (by omega) hT o1
    have H2 := Lib.hid fun (w1 : World) (R1 : List SP) (o1 : Own w1 (old W :: R1)) => ruItoa_spec r.first (by omega) (by omega) hT o1
    have H3 := Lib.hid fun (w1 : World) (R1 : List SP) (o1 : Own w1 (old W :: R1)) => ruItoa_spec r.last (by omega) (by omega) hT o1
    have H4 := Lib.hid fun (w1 : World) (R1 : List SP) (o1 : Own w1 (old W :: R1)) => ruItoa_spec r.flow (by omega) (by omega) hT o1
    have i1 : r.cls = -1 ∨ Lib.itoa r.cls = decI r.cls := by
      by_cases hc : 0 ≤ r.cls
      · exact .inr (itoa_nonneg hc)
      · exact .inl (by omega)
    have i2 : Lib.itoa r.first = decI r.first := itoa_nonneg (by omega)
    have i3 : Lib.itoa r.last = decI r.last := itoa_nonneg (by omega)
    have i4 : Lib.itoa r.flow = decI r.flow := itoa_nonneg (by omega)
    rw [i2] at H2
    rw [i3] at H3
    rw [i4] at H4
    have z5 := decI_len r.first (by omega)
    have z6 := decI_len r.last (by omega)
    have sa2 : (mkB (decI r.first)).size ≤ 20 := z5
    have sa3 : (mkB (decI r.last)).size ≤ 20 := z6
    have sa4 : (mkB (decI r.flow)).size ≤ 20 := z4
    have q1 : mkB (decI r.first) ++ (⟨#[45]⟩ : ByteArray) = mkB (decI r.first ++ [45]) := mkB_append _ [45]
    have q2 : mkB (decI r.first ++ [45]) ++ mkB (decI r.last) = mkB (decI r.first ++ [45] ++ decI r.last) := mkB_append _ _
    have q3 : (⟨#[62]⟩ : ByteArray) ++ mkB (decI r.flow) = mkB ([62] ++ decI r.flow) := mkB_append [62] _
    have sa5 : (mkB (decI r.first ++ [45])).size ≤ 21 := by rw [mkB_size, List.length_append]; show _ + 1 ≤ 21; omega
    obtain ⟨a1, e1⟩ : ∃ a, mkB (Lib.itoa r.cls) = a := ⟨_, rfl⟩
    obtain ⟨a2, e2⟩ : ∃ a, mkB (decI r.first) = a := ⟨_, rfl⟩
    obtain ⟨a3, e3⟩ : ∃ a, mkB (decI r.last) = a := ⟨_, rfl⟩
    obtain ⟨a4, e4⟩ : ∃ a, mkB (decI r.flow) = a := ⟨_, rfl⟩
    obtain ⟨a2m, e5⟩ : ∃ a, mkB (decI r.first ++ [45]) = a := ⟨_, rfl⟩
    obtain ⟨a23, e6⟩ : ∃ a, mkB (decI r.first ++ [45] ++ decI r.last) = a := ⟨_, rfl⟩
    obtain ⟨a4g, e7⟩ : ∃ a, mkB ([62] ++ decI r.flow) = a := ⟨_, rfl⟩
    have hem := emptyB (mkB r.st)
    rw [mkB_data] at hem
    obtain ⟨S, e0⟩ : ∃ a, mkB r.st = a := ⟨_, rfl⟩
    obtain ⟨em, hem2⟩ : ∃ em, decide (r.st = []) = em := ⟨_, rfl⟩
    rw [hem2, e0] at hem
    rw [e1] at H1
    rw [e2] at H2 sa2 q1
    rw [e3] at H3 sa3 q2
    rw [e4] at H4 sa4 q3
    rw [e5] at q1 q2 sa5
    rw [e6] at q2
    rw [e7] at q3
    have n8 : ¬ 9223372036854775807 < a2.size + 1 := by omega
    have n12 : ¬ 9223372036854775807 < a2m.size + a3.size := by omega
    have n16 : ¬ 9223372036854775807 < 1 + a4.size := by omega
    have EQ := Lib.hid (And.intro hem2 (And.intro e0 (And.intro e1 (And.intro e2 (And.intro e6 e7)))))
    have HQ := Lib.hid hq
    have I1 := Lib.hid i1
    obtain ⟨F, eF⟩ : ∃ F, mkB (fmtR r) = F := ⟨_, rfl⟩
    rw [eF]
    have EF := Lib.hid eF
    obtain ⟨c, ec⟩ : ∃ c, r.cls = c := ⟨_, rfl⟩
    obtain ⟨f, ef⟩ : ∃ c, r.first = c := ⟨_, rfl⟩
    obtain ⟨l, el⟩ : ∃ c, r.last = c := ⟨_, rfl⟩
    obtain ⟨y, ey⟩ : ∃ c, r.flow = c := ⟨_, rfl⟩
    unfold ruV at hV ⊢
    rw [e0, ec, ef, el, ey] at hV o1
    rw [e0, ec, ef, el, ey]
    rw [ec] at H1
    rw [ef] at H2
    rw [el] at H3
    rw [ey] at H4
    have EC := Lib.hid (And.intro ec (And.intro ef (And.intro el ey)))
    clear hem2 e0 e1 e2 e3 e4 e5 e6 e7 eF ec ef el ey hq i1 i2 i3 i4 z5 z6 z4
    go_enter Tryd.func12, Tryd.ntmps12
    go_wp2_with fail
    refine hV.mono ?_
    rintro e1 w1 ⟨rfl, o2, k2⟩
    have k2 := k2.al
    generalize w.heap.size = bx at *
    clear o1 hV
    go_upto_region 3 with fail
    go_cut [4] (fun v wc => ∃ g : Nat, v = .slice (some ⟨g, 0, none⟩) 4 4 ∧ Own wc (cel g 9 [.string S, .string a1, .string a23, .string a4g] :: cel bx 29 [.string S, .int .i64 c, .int .i64 f, .int .i64 l, .int .i64 y] :: old W :: R) ∧ Calm w wc)
    case first =>
      refine wp_region_draws (fun L v wc => Own wc (Tb (L 17) (v 17) 9 [.string S, .string a1, .string a23, .string a4g] :: cel bx 29 [.string S, .int .i64 c, .int .i64 f, .int .i64 l, .int .i64 y] :: old W :: R) ∧ Calm w wc ∧ OVals (fun i => ([some (.pointer (some ⟨bx, 0, none⟩)), some (.string S), some (.pointer (some ⟨bx, 1, none⟩)), some (.int .i64 c), some (.string a1), some (.pointer (some ⟨bx, 2, none⟩)), some (.int .i64 f), some (.string a2), some (.string a2m), some (.pointer (some ⟨bx, 3, none⟩)), some (.int .i64 l), some (.string a3), some (.string a23), some (.pointer (some ⟨bx, 4, none⟩)), some (.int .i64 y), some (.string a4), some (.string a4g), none, none] : List (Option Value)).getD i none) L v ∧ (L 18 = true → L 17 = true ∧ v 18 = v 17)) (by kernel_rfl) (by kernel_rfl) (by kernel_rfl) ?h0 ?step ?fin
      case h0 => exact ⟨Tb.no o2.drew, ⟨k2.os, k2.tape, k2.output⟩, OVals.no, fun h => (Bool.false_ne_true h).elim⟩
      case step =>
        refine ⟨DrawStep.mk rfl ?_, DrawStep.mk rfl ?_, DrawStep.mk rfl ?_, DrawStep.mk rfl ?_, DrawStep.mk rfl ?_, DrawStep.mk rfl ?_, DrawStep.mk rfl ?_, DrawStep.mk rfl ?_, DrawStep.mk rfl ?_, DrawStep.mk rfl ?_, DrawStep.mk rfl ?_, DrawStep.mk rfl ?_, DrawStep.mk rfl ?_, DrawStep.mk rfl ?_, DrawStep.mk rfl ?_, DrawStep.mk rfl ?_, DrawStep.mk rfl ?_, DrawStep.mk rfl ?_, DrawStep.mk rfl ?_, trivial⟩
        all_goals intro L v ac wc hL hd hA hI K' hK
        all_goals obtain ⟨oD, kD, hv, f1⟩ := hI
        all_goals simp [Region.binds] at hd
        all_goals have HV := Lib.hid hv
        all_goals clear hv
        · have c1 := hA.base 1 (by rfl)
          simp only [List.getElem?_toArray, List.getElem?_cons_zero, List.getElem?_cons_succ, Option.getD_some] at c1
          go_simp
          exact hK.out (.pointer (some ⟨bx, 0, none⟩)) _ ⟨oD, kD, HV.out.put 0 (fun _ h => some_eq h), f1⟩
        · have h0 : L 0 = true := by simp [hd]
          have c8 : ac.tmps[8]?.getD undef = .pointer (some ⟨bx, 0, none⟩) := (hA.get 0 h0).trans (HV.out 0 _ rfl h0)
          have cc := (oD.up 1).cell 0
          go_simp
          exact hK.out (.string S) _ ⟨oD, kD, HV.out.put 1 (fun _ h => some_eq h), f1⟩
        · have c1 := hA.base 1 (by rfl)
          simp only [List.getElem?_toArray, List.getElem?_cons_zero, List.getElem?_cons_succ, Option.getD_some] at c1
          go_simp
          exact hK.out (.pointer (some ⟨bx, 1, none⟩)) _ ⟨oD, kD, HV.out.put 2 (fun _ h => some_eq h), f1⟩
        · have h2 : L 2 = true := by simp [hd]
          have c10 : ac.tmps[10]?.getD undef = .pointer (some ⟨bx, 1, none⟩) := (hA.get 2 h2).trans (HV.out 2 _ rfl h2)
          have cc := (oD.up 1).cell 1
          go_simp
          exact hK.out (.int .i64 c) _ ⟨oD, kD, HV.out.put 3 (fun _ h => some_eq h), f1⟩
        · have h3 : L 3 = true := by simp [hd]
          have c11 : ac.tmps[11]?.getD undef = .int .i64 c := (hA.get 3 h3).trans (HV.out 3 _ rfl h3)
          go_simp
          refine (H1.out _ _ (oD.up 2)).mono ?_
          rintro _ w3 ⟨rfl, o3, k3⟩
          exact hK.out (.string a1) _ ⟨o3.re [1, 2, 0], kD.trans k3, HV.out.put 4 (fun _ h => some_eq h), f1⟩
        · have c1 := hA.base 1 (by rfl)
          simp only [List.getElem?_toArray, List.getElem?_cons_zero, List.getElem?_cons_succ, Option.getD_some] at c1
          go_simp
          exact hK.out (.pointer (some ⟨bx, 2, none⟩)) _ ⟨oD, kD, HV.out.put 5 (fun _ h => some_eq h), f1⟩
        · have h5 : L 5 = true := by simp [hd]
          have c13 : ac.tmps[13]?.getD undef = .pointer (some ⟨bx, 2, none⟩) := (hA.get 5 h5).trans (HV.out 5 _ rfl h5)
          have cc := (oD.up 1).cell 2
          go_simp
          exact hK.out (.int .i64 f) _ ⟨oD, kD, HV.out.put 6 (fun _ h => some_eq h), f1⟩
        · have h6 : L 6 = true := by simp [hd]
          have c14 : ac.tmps[14]?.getD undef = .int .i64 f := (hA.get 6 h6).trans (HV.out 6 _ rfl h6)
          go_simp
          refine (H2.out _ _ (oD.up 2)).mono ?_
          rintro _ w3 ⟨rfl, o3, k3⟩
          exact hK.out (.string a2) _ ⟨o3.re [1, 2, 0], kD.trans k3, HV.out.put 7 (fun _ h => some_eq h), f1⟩
        · have h7 : L 7 = true := by simp [hd]
          have c15 : ac.tmps[15]?.getD undef = .string a2 := (hA.get 7 h7).trans (HV.out 7 _ rfl h7)
          go_simp
          exact hK.out (.string a2m) _ ⟨oD, kD, HV.out.put 8 (fun _ h => some_eq h), f1⟩
        · have c1 := hA.base 1 (by rfl)
          simp only [List.getElem?_toArray, List.getElem?_cons_zero, List.getElem?_cons_succ, Option.getD_some] at c1
          go_simp
          exact hK.out (.pointer (some ⟨bx, 3, none⟩)) _ ⟨oD, kD, HV.out.put 9 (fun _ h => some_eq h), f1⟩
        · have h9 : L 9 = true := by simp [hd]
          have c17 : ac.tmps[17]?.getD undef = .pointer (some ⟨bx, 3, none⟩) := (hA.get 9 h9).trans (HV.out 9 _ rfl h9)
          have cc := (oD.up 1).cell 3
          go_simp
          exact hK.out (.int .i64 l) _ ⟨oD, kD, HV.out.put 10 (fun _ h => some_eq h), f1⟩
        · have h10 : L 10 = true := by simp [hd]
          have c18 : ac.tmps[18]?.getD undef = .int .i64 l := (hA.get 10 h10).trans (HV.out 10 _ rfl h10)
          go_simp
          refine (H3.out _ _ (oD.up 2)).mono ?_
          rintro _ w3 ⟨rfl, o3, k3⟩
          exact hK.out (.string a3) _ ⟨o3.re [1, 2, 0], kD.trans k3, HV.out.put 11 (fun _ h => some_eq h), f1⟩
        · have h8 : L 8 = true := by simp [hd]
          have c16 : ac.tmps[16]?.getD undef = .string a2m := (hA.get 8 h8).trans (HV.out 8 _ rfl h8)
          have h11 : L 11 = true := by simp [hd]
          have c19 : ac.tmps[19]?.getD undef = .string a3 := (hA.get 11 h11).trans (HV.out 11 _ rfl h11)
          go_simp
          exact hK.out (.string a23) _ ⟨oD, kD, HV.out.put 12 (fun _ h => some_eq h), f1⟩
        · have c1 := hA.base 1 (by rfl)
          simp only [List.getElem?_toArray, List.getElem?_cons_zero, List.getElem?_cons_succ, Option.getD_some] at c1
          go_simp
          exact hK.out (.pointer (some ⟨bx, 4, none⟩)) _ ⟨oD, kD, HV.out.put 13 (fun _ h => some_eq h), f1⟩
        · have h13 : L 13 = true := by simp [hd]
          have c21 : ac.tmps[21]?.getD undef = .pointer (some ⟨bx, 4, none⟩) := (hA.get 13 h13).trans (HV.out 13 _ rfl h13)
          have cc := (oD.up 1).cell 4
          go_simp
          exact hK.out (.int .i64 y) _ ⟨oD, kD, HV.out.put 14 (fun _ h => some_eq h), f1⟩
        · have h14 : L 14 = true := by simp [hd]
          have c22 : ac.tmps[22]?.getD undef = .int .i64 y := (hA.get 14 h14).trans (HV.out 14 _ rfl h14)
          go_simp
          refine (H4.out _ _ (oD.up 2)).mono ?_
          rintro _ w3 ⟨rfl, o3, k3⟩
          exact hK.out (.string a4) _ ⟨o3.re [1, 2, 0], kD.trans k3, HV.out.put 15 (fun _ h => some_eq h), f1⟩
        · have h15 : L 15 = true := by simp [hd]
          have c23 : ac.tmps[23]?.getD undef = .string a4 := (hA.get 15 h15).trans (HV.out 15 _ rfl h15)
          go_simp
          exact hK.out (.string a4g) _ ⟨oD, kD, HV.out.put 16 (fun _ h => some_eq h), f1⟩
        · have h1 : L 1 = true := by simp [hd]
          have c9 : ac.tmps[9]?.getD undef = .string S := (hA.get 1 h1).trans (HV.out 1 _ rfl h1)
          have h4 : L 4 = true := by simp [hd]
          have c12 : ac.tmps[12]?.getD undef = .string a1 := (hA.get 4 h4).trans (HV.out 4 _ rfl h4)
          have h12 : L 12 = true := by simp [hd]
          have c20 : ac.tmps[20]?.getD undef = .string a23 := (hA.get 12 h12).trans (HV.out 12 _ rfl h12)
          have h16 : L 16 = true := by simp [hd]
          have c24 : ac.tmps[24]?.getD undef = .string a4g := (hA.get 16 h16).trans (HV.out 16 _ rfl h16)
          rw [hL] at oD
          go_simp
          exact hK.out _ _ ⟨Tb.new oD _ (oD.alloc (.cells #[.string S, .string a1, .string a23, .string a4g] 9)), ⟨kD.os, kD.tape, kD.output⟩, HV.out.put 17 (fun _ h => by cases h), fun h => (by rw [hL] at f1; cases (f1 h).1)⟩
        · have h17 : L 17 = true := by simp [hd]
          have c25 := hA.get 17 h17
          go_simp
          exact hK.out _ _ ⟨oD, kD, HV.out.put 18 (fun _ h => by cases h), fun _ => ⟨h17, rfl⟩⟩
      case fin =>
        rintro L v wc hall ⟨oD, kD, hv, f1⟩
        have h18 := (f1 (hall 18 (by decide))).2
        rw [hall 17 (by decide)] at oD
        obtain ⟨g, hg⟩ := Tb.val oD
        rw [hg] at h18 oD
        have oG : Own wc (cel g 9 [.string S, .string a1, .string a23, .string a4g] :: cel bx 29 [.string S, .int .i64 c, .int .i64 f, .int .i64 l, .int .i64 y] :: old W :: R) := by
          unfold Tb at oD
          rw [if_pos rfl] at oD
          obtain ⟨g', oD⟩ := Own.ex.1 oD
          obtain ⟨h, oD⟩ := Own.pu.1 (Own.st.1 oD)
          simp only [Value.slice.injEq, Option.some.injEq, Addr.mk.injEq] at h
          obtain ⟨⟨rfl, _⟩, _⟩ := h
          exact oD
        clear hv f1 hall oD
        simp only [putAll, Act.put, List.setIfInBounds_toArray, List.set_cons_zero, List.set_cons_succ]
        go_wp2
        go_meet
        exact ⟨g, h18, oG, kD⟩
    case rest =>
    obtain ⟨g, rfl, o3, k3⟩ := hcut
    clear n8 n12 n16 q1 q2 q3 sa2 sa3 sa4 sa5 H1 H3 H4
    have s0 := o3.cell 0
    have sf := Own.frozen (T := 9) o3
    have sl := Own.celLt (T := 9) o3
    have x0 := (o3.up 1).cell 0
    go_upto_if 28 with fail
    go_cut [4] (fun v wc => ∃ g : Nat, v = .slice (some ⟨g, 0, none⟩) 4 4 ∧ Own wc (cel g 9 [.string (mkB (stW r)), .string (a1), .string (a23), .string (a4g)] :: cel bx 29 [.string S, .int .i64 c, .int .i64 f, .int .i64 l, .int .i64 y] :: old W :: R) ∧ Calm w wc)
    case first =>
      cases em with
      | true =>
        have HS := Lib.hid (show mkB (stW r) = ⟨#[42]⟩ by unfold stW; rw [if_pos (of_decide_eq_true EQ.out.1)]; rfl)
        go_wp2
        go_meet
        exact ⟨g, rfl, by rw [HS.out]; exact o3.setCell 0 (.string ⟨#[42]⟩), calmS k3⟩
      | false =>
        have HS := Lib.hid (show mkB (stW r) = S by unfold stW; rw [if_neg (of_decide_eq_false EQ.out.1)]; exact EQ.out.2.1)
        go_wp2
        go_meet
        exact ⟨g, rfl, by rw [HS.out]; exact o3, k3⟩
    case rest =>
    clear s0 sf sl x0 o3 k3
    obtain ⟨g, rfl, o3, k3⟩ := hcut
    have s1 := o3.cell 1
    have sf := Own.frozen (T := 9) o3
    have sl := Own.celLt (T := 9) o3
    have x1 := (o3.up 1).cell 1
    go_upto_if 33 with fail
    go_cut [4] (fun v wc => ∃ g : Nat, v = .slice (some ⟨g, 0, none⟩) 4 4 ∧ Own wc (cel g 9 [.string (mkB (stW r)), .string (mkB (clW r)), .string (a23), .string (a4g)] :: cel bx 29 [.string S, .int .i64 c, .int .i64 f, .int .i64 l, .int .i64 y] :: old W :: R) ∧ Calm w wc)
    case first =>
      by_cases h1 : c = -1
      · have HS := Lib.hid (show mkB (clW r) = ⟨#[42]⟩ by unfold clW; rw [if_neg (by have := EC.out.1; omega)]; rfl)
        have e1 : (c == -1) = true := beq_iff_eq.2 h1
        clear h1
        go_wp2
        go_meet
        exact ⟨g, rfl, by rw [HS.out]; exact o3.setCell 1 (.string ⟨#[42]⟩), calmS k3⟩
      · have HS := Lib.hid (show mkB (clW r) = a1 by
          rw [← EQ.out.2.2.1]
          have h2 := EC.out.1
          have h3 := HQ.out
          rcases I1.out with h | h
          · exact absurd (h2.symm.trans h) h1
          · unfold clW; rw [if_pos (by omega), h])
        have e1 : (c == -1) = false := beq_eq_false_iff_ne.2 h1
        clear h1
        go_wp2
        go_meet
        exact ⟨g, rfl, by rw [HS.out]; exact o3, k3⟩
    case rest =>
    clear s1 sf sl x1 o3 k3
    obtain ⟨g, rfl, o3, k3⟩ := hcut
    have s2 := o3.cell 2
    have sf := Own.frozen (T := 9) o3
    have sl := Own.celLt (T := 9) o3
    have x2 := (o3.up 1).cell 2
    have x3 := (o3.up 1).cell 3
    go_upto_block 0 with fail
    go_cut [4] (fun v wc => ∃ g : Nat, v = .slice (some ⟨g, 0, none⟩) 4 4 ∧ Own wc (cel g 9 [.string (mkB (stW r)), .string (mkB (clW r)), .string (mkB (poW r)), .string (a4g)] :: cel bx 29 [.string S, .int .i64 c, .int .i64 f, .int .i64 l, .int .i64 y] :: old W :: R) ∧ Calm w wc)
    case first =>
      have ef := EC.out.2.1
      have el := EC.out.2.2.1
      by_cases g1 : f = 0 ∧ l = 65535
      · have HS := Lib.hid (show mkB (poW r) = ⟨#[42]⟩ by unfold poW; rw [if_pos ⟨ef.trans g1.1, el.trans g1.2⟩]; rfl)
        have e1 : (f == 0) = true := beq_iff_eq.2 g1.1
        have e2 : (l == 65535) = true := beq_iff_eq.2 g1.2
        clear g1 ef el
        go_wp2
        go_meet
        exact ⟨g, rfl, by rw [HS.out]; exact o3.setCell 2 (.string ⟨#[42]⟩), calmS k3⟩
      have g1' : ¬ (r.first = 0 ∧ r.last = 65535) := by rw [ef, el]; exact g1
      by_cases g3 : f = l
      · have HS := Lib.hid (show mkB (poW r) = a2 by unfold poW; rw [if_neg g1', if_neg (by rw [ef, el]; exact fun h => h g3)]; exact EQ.out.2.2.2.1)
        have e3 : (f == l) = true := beq_iff_eq.2 g3
        have h2 := H2.out _ _ (o3.up 2)
        by_cases g2 : f = 0
        · have e1 : (f == 0) = true := beq_iff_eq.2 g2
          have e2 : (l == 65535) = false := beq_eq_false_iff_ne.2 fun e => g1 ⟨g2, e⟩
          clear g1 g1' g2 g3 ef el
          go_wp2_with fail
          refine h2.mono ?_
          rintro e5 w5 ⟨rfl, o5, k5⟩
          have o6 := o5.up 1
          have t2 := o6.cell 2
          have tf := Own.frozen (T := 9) o6
          have tl := Own.celLt (T := 9) o6
          go_wp2
          go_meet
          exact ⟨g, rfl, by rw [HS.out]; exact (o6.setCell 2 (.string a2)).re [0, 2, 1], calmS (k3.trans k5)⟩
        · have e1 : (f == 0) = false := beq_eq_false_iff_ne.2 g2
          clear g1 g1' g2 g3 ef el
          go_wp2_with fail
          refine h2.mono ?_
          rintro e5 w5 ⟨rfl, o5, k5⟩
          have o6 := o5.up 1
          have t2 := o6.cell 2
          have tf := Own.frozen (T := 9) o6
          have tl := Own.celLt (T := 9) o6
          go_wp2
          go_meet
          exact ⟨g, rfl, by rw [HS.out]; exact (o6.setCell 2 (.string a2)).re [0, 2, 1], calmS (k3.trans k5)⟩
      · have HS := Lib.hid (show mkB (poW r) = a23 by
          unfold poW
          rw [if_neg g1', if_pos (by rw [ef, el]; exact g3), ← EQ.out.2.2.2.2.1]
          congr 1
          simp)
        have e3 : (f == l) = false := beq_eq_false_iff_ne.2 g3
        by_cases g2 : f = 0
        · have e1 : (f == 0) = true := beq_iff_eq.2 g2
          have e2 : (l == 65535) = false := beq_eq_false_iff_ne.2 fun e => g1 ⟨g2, e⟩
          clear g1 g1' g2 g3 ef el
          go_wp2
          go_meet
          exact ⟨g, rfl, by rw [HS.out]; exact o3, k3⟩
        · have e1 : (f == 0) = false := beq_eq_false_iff_ne.2 g2
          clear g1 g1' g2 g3 ef el
          go_wp2
          go_meet
          exact ⟨g, rfl, by rw [HS.out]; exact o3, k3⟩
    case rest =>
    clear s2 sf sl x2 x3 o3 k3
    obtain ⟨g, rfl, o3, k3⟩ := hcut
    rw [← EQ.out.2.2.2.2.2] at o3
    have hJ := join_spec g (stW r) (clW r) (poW r) ([62] ++ decI r.flow) (by have h4 := decI_len r.flow (by have := HQ.out; omega); rw [List.length_append]; show _ + _ + _ + (1 + _) ≤ _; omega) o3
    have hF : stW r ++ [32] ++ clW r ++ [32] ++ poW r ++ [32] ++ ([62] ++ decI r.flow) = fmtR r := by unfold fmtR; simp
    rw [hF, EF.out] at hJ
    clear hF
    go_wp2_with fail
    refine hJ.mono ?_
    rintro e5 w5 ⟨rfl, o5, k5⟩
    go_wp2
    go_ret2
    exact ⟨rfl, o5.drop.drop, k3.trans k5⟩
end
end Go.Proofs.YtbldanhjbnpdiaaDoor
