/- RulesCover: the walk (printed by gencw.py). -/
import Derived.Test.YtbldanhjbnpdiaaGreatDoorRuV
import Derived.Test.YtbldanhjbnpdiaaGreatDoorRuT1
import Derived.Test.YtbldanhjbnpdiaaGreatDoorRuT2
import Derived.Test.YtbldanhjbnpdiaaGreatDoorRuT3
import Derived.Test.YtbldanhjbnpdiaaGreatDoorRuJ0
import Derived.Test.YtbldanhjbnpdiaaGreatDoorDrawG
import Derived.Deep.RegionHeld3
import Derived.Laws.Rows
namespace Go.Proofs.YtbldanhjbnpdiaaGreatDoor
open Go.RowKit
open Go.Shelf
open SP
section
variable {W w w' : World} {R : List SP}
set_option maxHeartbeats 25600000 in
set_option maxRecDepth 100000 in
theorem rulesCover_walk (a0 : Option Addr) (len0 cap0 : Nat) (z0 : List Int) (a b : Ru) (w : World) (w0 : IsRow .i64 w a0 len0 cap0 z0) (hT : TabsW w) (hm : MaxV w) :
    Calls Tryz.prog 3 #[.slice a0 len0 cap0, ruV a, ruV b] w fun e w' => e = .returned (.bool true) ∧ Below w.heap.size w w' := by
  have oW := (((Own.start w).alloc (.cells #[.string (mkB a.st), .int .i64 a.cls, .int .i64 a.first, .int .i64 a.last, .int .i64 a.flow] 24)).alloc (.cells #[.string (mkB b.st), .int .i64 b.cls, .int .i64 b.first, .int .i64 b.last, .int .i64 b.flow] 24)).up 2
  simp only [World.size_alloc] at oW
  have PC := Lib.hid fun (x y : Ru) (hx : x.st.length ≤ 2000000) (hy : y.st.length ≤ 2000000) (w1 : World) (R : List SP) (o1 : Own w1 (old w :: R)) => ruCovers_spec x y hx hy hT o1
  have RC := Lib.hid fun (x y : Ru) (hx : x.st.length ≤ 2000000) (hy : y.st.length ≤ 2000000) (w1 : World) (R : List SP) (o1 : Own w1 (old w :: R)) => refCovers_spec x y hx hy hT o1
  have PM := Lib.hid fun (x : Ru) (y : Hd) (hx : x.st.length ≤ 2000000) (hy : y.st.length ≤ 2000000) (w1 : World) (R : List SP) (o1 : Own w1 (old w :: R)) => ruMatches_spec x y hx hy hT o1
  have HA := Lib.hid fun (w1 : World) (R : List SP) (o1 : Own w1 (old w :: R)) => awake9_spec hm o1
  clear hT hm
  have pab := Lib.hid fun (hx : a.st.length ≤ 2000000) (hy : b.st.length ≤ 2000000) => PC.out a b hx hy
  have rab := Lib.hid fun (hx : a.st.length ≤ 2000000) (hy : b.st.length ≤ 2000000) => RC.out a b hx hy
  generalize covOK a b = zab at *
  unfold ruV at pab rab ⊢
  have hla : (mkB a.st).size = a.st.length := mkB_size _
  have hlb : (mkB b.st).size = b.st.length := mkB_size _
  generalize mkB a.st = AS at *
  generalize mkB b.st = BS at *
  generalize a.cls = aq at *
  generalize a.first = af at *
  generalize a.last = al at *
  generalize a.flow = ay at *
  generalize a.st = ast at *
  generalize b.cls = bc at *
  generalize b.first = bf at *
  generalize b.last = bl at *
  generalize b.flow = bw at *
  generalize b.st = bst at *
  go_enter Tryz.func3, Tryz.ntmps3
  go_wp2_with fail
  refine (genNew_spec a0 len0 cap0 z0 (w0) oW).mono ?_
  rintro e1 v1 ⟨cb, rfl, o1, k1⟩
  have k1 := k1.al.al
  generalize hb4 : w.heap.size = b4 at *
  have hT1 : ∃ i : Nat, (Value.int .i64 0 : Value) = .int .i64 (i : Int) ∧ i ≤ 6 ∧ Own v1 [Ch w cb (17 * i), old w, cel (b4 + 1) 24 [.string BS, .int .i64 bc, .int .i64 bf, .int .i64 bl, .int .i64 bw], cel b4 24 [.string AS, .int .i64 aq, .int .i64 af, .int .i64 al, .int .i64 ay]] ∧ Calm w v1 := ⟨0, rfl, by omega, o1, k1⟩
  go_wp2
  go_loopw [8] (fun v wr => ∃ i : Nat, v = .int .i64 (i : Int) ∧ i ≤ 6 ∧ Own wr [Ch w cb (17 * i), old w, cel (b4 + 1) 24 [.string BS, .int .i64 bc, .int .i64 bf, .int .i64 bl, .int .i64 bw], cel b4 24 [.string AS, .int .i64 aq, .int .i64 af, .int .i64 al, .int .i64 ay]] ∧ Calm w wr) (fun v _ => 6 - viN v)
  case atStart => exact hT1
  case round =>
    clear hT1 o1 k1 oW
    obtain ⟨i, rfl, hi, oR, kR⟩ := hrel
    by_cases hlt : i < 6
    · have dl : decide (i < 6) = true := decide_eq_true hlt
      go_wp2_with fail
      refine (genRule_spec (17 * i) (by omega) oR).mono ?_
      rintro e2 w2 ⟨x, hx, rfl, o2, k2⟩
      go_wp2_with fail
      refine (genRule_spec (17 * i + 6) (by omega) o2).mono ?_
      rintro e3 w3 ⟨y, hy, rfl, o3, k3⟩
      go_wp2_with fail
      refine (genHeader_spec (17 * i + 6 + 6) (by omega) o3).mono ?_
      rintro e4 w4 ⟨h, hh, rfl, o4, k4⟩
      unfold ruV hdV
      have hxl : x.st.length ≤ 2000000 := by have := hx.len; omega
      have hyl : y.st.length ≤ 2000000 := by have := hy.len; omega
      have hhl : h.st.length ≤ 2000000 := by have := hh.len; omega
      have c1 := Lib.hid (PC.out x y hxl hyl)
      have c2 := Lib.hid (RC.out x y hxl hyl)
      have c3 := Lib.hid (PC.out x x hxl hxl)
      have c4 := Lib.hid (PM.out y h hyl hhl)
      have c5 := Lib.hid (PM.out x h hxl hhl)
      have c6 := Lib.hid (PC.out ruAll x (Nat.zero_le _) hxl)
      have c7 := Lib.hid (PM.out ruAll h (Nat.zero_le _) hhl)
      have hz : covOK x y = true → matOK y h = true → matOK x h = true := cov_mat
      rw [cov_self hx.ok] at c3
      rw [cov_all hx.ok] at c6
      rw [mat_all hh.ok] at c7
      have KR := kR.trans (k2.trans (k3.trans k4))
      clear hx hy hh hxl hyl hhl o2 o3 k2 k3 k4 kR oR pab rab hla hlb PC RC PM
      generalize covOK x y = zc at *
      generalize matOK y h = zm at *
      generalize matOK x h = zn at *
      unfold ruAll at c6 c7
      unfold ruV hdV at c4 c5 c7
      unfold ruV at c1 c2 c3 c6
      dsimp only at c6 c7
      rw [mkB_nil] at c6 c7
      generalize mkB x.st = XS at *
      generalize x.cls = x1 at *
      generalize x.first = x2 at *
      generalize x.last = x3 at *
      generalize x.flow = x4 at *
      generalize mkB y.st = YS at *
      generalize y.cls = y1 at *
      generalize y.first = y2 at *
      generalize y.last = y3 at *
      generalize y.flow = y4 at *
      generalize mkB h.st = HS at *
      generalize h.cls = h1 at *
      generalize h.port = h2 at *
      generalize h.len = h3 at *
      generalize h.life = h4 at *
      have o5 := (((o4.alloc (.cells #[.string XS, .int .i64 x1, .int .i64 x2, .int .i64 x3, .int .i64 x4] 24)).alloc (.cells #[.string YS, .int .i64 y1, .int .i64 y2, .int .i64 y3, .int .i64 y4] 24)).alloc (.cells #[.string HS, .int .i64 h1, .int .i64 h2, .int .i64 h3, .int .i64 h4] 29)).re [4, 0, 1, 2]
      simp only [World.size_alloc] at o5
      have k5 := calm_alloc (x := .cells #[.string HS, .int .i64 h1, .int .i64 h2, .int .i64 h3, .int .i64 h4] 29) (calm_alloc (x := .cells #[.string YS, .int .i64 y1, .int .i64 y2, .int .i64 y3, .int .i64 y4] 24) (calm_alloc (x := .cells #[.string XS, .int .i64 x1, .int .i64 x2, .int .i64 x3, .int .i64 x4] 24) KR))
      go_upto_region 6 with fail
      generalize w4.heap.size = g at *
      generalize ((w4.alloc (.cells #[.string XS, .int .i64 x1, .int .i64 x2, .int .i64 x3, .int .i64 x4] 24)).alloc (.cells #[.string YS, .int .i64 y1, .int .i64 y2, .int .i64 y3, .int .i64 y4] 24)).alloc (.cells #[.string HS, .int .i64 h1, .int .i64 h2, .int .i64 h3, .int .i64 h4] 29) = w5 at *
      have o5 : Own w5 (old w :: cel (g + 1 + 1) 29 [.string HS, .int .i64 h1, .int .i64 h2, .int .i64 h3, .int .i64 h4] :: cel (g + 1) 24 [.string YS, .int .i64 y1, .int .i64 y2, .int .i64 y3, .int .i64 y4] :: cel g 24 [.string XS, .int .i64 x1, .int .i64 x2, .int .i64 x3, .int .i64 x4] :: Ch w cb (17 * i + 6 + 6 + 5) :: cel (b4 + 1) 24 [.string BS, .int .i64 bc, .int .i64 bf, .int .i64 bl, .int .i64 bw] :: cel b4 24 [.string AS, .int .i64 aq, .int .i64 af, .int .i64 al, .int .i64 ay] :: []) := o5
      go_cut [53] (fun v wc => v = .bool false ∧ Own wc (old w :: cel (g + 1 + 1) 29 [.string HS, .int .i64 h1, .int .i64 h2, .int .i64 h3, .int .i64 h4] :: cel (g + 1) 24 [.string YS, .int .i64 y1, .int .i64 y2, .int .i64 y3, .int .i64 y4] :: cel g 24 [.string XS, .int .i64 x1, .int .i64 x2, .int .i64 x3, .int .i64 x4] :: Ch w cb (17 * i + 6 + 6 + 5) :: cel (b4 + 1) 24 [.string BS, .int .i64 bc, .int .i64 bf, .int .i64 bl, .int .i64 bw] :: cel b4 24 [.string AS, .int .i64 aq, .int .i64 af, .int .i64 al, .int .i64 ay] :: []) ∧ Calm w wc)
      case first =>
        cases zc with
        | false =>
          refine wp_region_draws (fun L v wc => Own wc (old w :: cel (g + 1 + 1) 29 [.string HS, .int .i64 h1, .int .i64 h2, .int .i64 h3, .int .i64 h4] :: cel (g + 1) 24 [.string YS, .int .i64 y1, .int .i64 y2, .int .i64 y3, .int .i64 y4] :: cel g 24 [.string XS, .int .i64 x1, .int .i64 x2, .int .i64 x3, .int .i64 x4] :: Ch w cb (17 * i + 6 + 6 + 5) :: cel (b4 + 1) 24 [.string BS, .int .i64 bc, .int .i64 bf, .int .i64 bl, .int .i64 bw] :: cel b4 24 [.string AS, .int .i64 aq, .int .i64 af, .int .i64 al, .int .i64 ay] :: []) ∧ Calm w wc ∧ OVals (fun i => ([some (.agg #[.string XS, .int .i64 x1, .int .i64 x2, .int .i64 x3, .int .i64 x4]), some (.agg #[.string YS, .int .i64 y1, .int .i64 y2, .int .i64 y3, .int .i64 y4]), some (.bool false), some (.agg #[.string XS, .int .i64 x1, .int .i64 x2, .int .i64 x3, .int .i64 x4]), some (.agg #[.string YS, .int .i64 y1, .int .i64 y2, .int .i64 y3, .int .i64 y4]), some (.bool false), some (.bool false), some (.bool false), some (.agg #[.string XS, .int .i64 x1, .int .i64 x2, .int .i64 x3, .int .i64 x4]), some (.agg #[.string XS, .int .i64 x1, .int .i64 x2, .int .i64 x3, .int .i64 x4]), some (.bool true), some (.bool false), some (.bool false), some (.bool false), some (.agg #[.string XS, .int .i64 x1, .int .i64 x2, .int .i64 x3, .int .i64 x4]), some (.agg #[.string YS, .int .i64 y1, .int .i64 y2, .int .i64 y3, .int .i64 y4]), some (.bool false), some (.bool false), some (undef), some (undef), some (undef), some (.bool false), some (.bool false), some (undef), some (undef), some (undef), some (undef), some (.bool false), some (.bool false)] : List (Option Value)).getD i none) L v) (by kernel_rfl) (by kernel_rfl) (by kernel_rfl) ?h0 ?step ?fin
          case h0 => exact ⟨o5.drew, ⟨k5.os, k5.tape, k5.output⟩, OVals.no⟩
          case step =>
            refine ⟨DrawStep.mk rfl ?_, DrawStep.mk rfl ?_, DrawStep.mk rfl ?_, DrawStep.mk rfl ?_, DrawStep.mk rfl ?_, DrawStep.mk rfl ?_, DrawStep.mk rfl ?_, DrawStep.mk rfl ?_, DrawStep.run rfl rfl (by kernel_rfl) (fun L v w hI hl => hI.2.2 7 _ rfl hl) ?_, DrawStep.run rfl rfl (by kernel_rfl) (fun L v w hI hl => hI.2.2 7 _ rfl hl) ?_, DrawStep.run rfl rfl (by kernel_rfl) (fun L v w hI hl => hI.2.2 7 _ rfl hl) ?_, DrawStep.run rfl rfl (by kernel_rfl) (fun L v w hI hl => hI.2.2 7 _ rfl hl) ?_, DrawStep.mk rfl ?_, DrawStep.mk rfl ?_, DrawStep.run rfl rfl (by kernel_rfl) (fun L v w hI hl => hI.2.2 13 _ rfl hl) ?_, DrawStep.run rfl rfl (by kernel_rfl) (fun L v w hI hl => hI.2.2 13 _ rfl hl) ?_, DrawStep.run rfl rfl (by kernel_rfl) (fun L v w hI hl => hI.2.2 13 _ rfl hl) ?_, DrawStep.run rfl rfl (by kernel_rfl) (fun L v w hI hl => hI.2.2 13 _ rfl hl) ?_, DrawStep.skip rfl rfl (by kernel_rfl) (fun L v w hI hl => hI.2.2 17 _ rfl hl) (fun L v w hL hI => ⟨hI.1, hI.2.1, hI.2.2.put 18 (fun _ h => some_eq h)⟩), DrawStep.skip rfl rfl (by kernel_rfl) (fun L v w hI hl => hI.2.2 17 _ rfl hl) (fun L v w hL hI => ⟨hI.1, hI.2.1, hI.2.2.put 19 (fun _ h => some_eq h)⟩), DrawStep.skip rfl rfl (by kernel_rfl) (fun L v w hI hl => hI.2.2 17 _ rfl hl) (fun L v w hL hI => ⟨hI.1, hI.2.1, hI.2.2.put 20 (fun _ h => some_eq h)⟩), DrawStep.run rfl rfl (by kernel_rfl) (fun L v w hI hl => hI.2.2 13 _ rfl hl) ?_, DrawStep.run rfl rfl (by kernel_rfl) (fun L v w hI hl => hI.2.2 13 _ rfl hl) ?_, DrawStep.skip rfl rfl (by kernel_rfl) (fun L v w hI hl => hI.2.2 22 _ rfl hl) (fun L v w hL hI => ⟨hI.1, hI.2.1, hI.2.2.put 23 (fun _ h => some_eq h)⟩), DrawStep.skip rfl rfl (by kernel_rfl) (fun L v w hI hl => hI.2.2 22 _ rfl hl) (fun L v w hL hI => ⟨hI.1, hI.2.1, hI.2.2.put 24 (fun _ h => some_eq h)⟩), DrawStep.skip rfl rfl (by kernel_rfl) (fun L v w hI hl => hI.2.2 22 _ rfl hl) (fun L v w hL hI => ⟨hI.1, hI.2.1, hI.2.2.put 25 (fun _ h => some_eq h)⟩), DrawStep.skip rfl rfl (by kernel_rfl) (fun L v w hI hl => hI.2.2 22 _ rfl hl) (fun L v w hL hI => ⟨hI.1, hI.2.1, hI.2.2.put 26 (fun _ h => some_eq h)⟩), DrawStep.run rfl rfl (by kernel_rfl) (fun L v w hI hl => hI.2.2 13 _ rfl hl) ?_, DrawStep.mk rfl ?_, trivial⟩
            all_goals intro L v ac wc hL hd hA hI K' hK
            all_goals obtain ⟨oD, kD, hv⟩ := hI
            all_goals simp [Region.binds] at hd
            all_goals have HV := Lib.hid hv
            all_goals clear hv
            · have c9_ := hA.base 9 (by rfl)
              simp only [List.getElem?_toArray, List.getElem?_cons_zero, List.getElem?_cons_succ, Option.getD_some] at c9_
              have u0_ := (oD.up 3).cell 0
              have u1_ := (oD.up 3).cell 1
              have u2_ := (oD.up 3).cell 2
              have u3_ := (oD.up 3).cell 3
              have u4_ := (oD.up 3).cell 4
              go_simp
              exact hK.out (.agg #[.string XS, .int .i64 x1, .int .i64 x2, .int .i64 x3, .int .i64 x4]) _ ⟨oD, kD, HV.out.put 0 (fun _ h => some_eq h)⟩
            · have c10_ := hA.base 10 (by rfl)
              simp only [List.getElem?_toArray, List.getElem?_cons_zero, List.getElem?_cons_succ, Option.getD_some] at c10_
              have u0_ := (oD.up 2).cell 0
              have u1_ := (oD.up 2).cell 1
              have u2_ := (oD.up 2).cell 2
              have u3_ := (oD.up 2).cell 3
              have u4_ := (oD.up 2).cell 4
              go_simp
              exact hK.out (.agg #[.string YS, .int .i64 y1, .int .i64 y2, .int .i64 y3, .int .i64 y4]) _ ⟨oD, kD, HV.out.put 1 (fun _ h => some_eq h)⟩
            · have h0_ : L 0 = true := by simp [hd]
              have c25_ : ac.tmps[25]?.getD undef = .agg #[.string XS, .int .i64 x1, .int .i64 x2, .int .i64 x3, .int .i64 x4] := (hA.get 0 h0_).trans (HV.out 0 _ rfl h0_)
              have h1_ : L 1 = true := by simp [hd]
              have c26_ : ac.tmps[26]?.getD undef = .agg #[.string YS, .int .i64 y1, .int .i64 y2, .int .i64 y3, .int .i64 y4] := (hA.get 1 h1_).trans (HV.out 1 _ rfl h1_)
              go_simp
              refine (c1.out _ _ (oD.up 0)).mono ?_
              rintro _ w3_ ⟨rfl, o3_, k3_⟩
              exact hK.out (.bool false) _ ⟨o3_.re [0], kD.trans k3_, HV.out.put 2 (fun _ h => some_eq h)⟩
            · have c9_ := hA.base 9 (by rfl)
              simp only [List.getElem?_toArray, List.getElem?_cons_zero, List.getElem?_cons_succ, Option.getD_some] at c9_
              have u0_ := (oD.up 3).cell 0
              have u1_ := (oD.up 3).cell 1
              have u2_ := (oD.up 3).cell 2
              have u3_ := (oD.up 3).cell 3
              have u4_ := (oD.up 3).cell 4
              go_simp
              exact hK.out (.agg #[.string XS, .int .i64 x1, .int .i64 x2, .int .i64 x3, .int .i64 x4]) _ ⟨oD, kD, HV.out.put 3 (fun _ h => some_eq h)⟩
            · have c10_ := hA.base 10 (by rfl)
              simp only [List.getElem?_toArray, List.getElem?_cons_zero, List.getElem?_cons_succ, Option.getD_some] at c10_
              have u0_ := (oD.up 2).cell 0
              have u1_ := (oD.up 2).cell 1
              have u2_ := (oD.up 2).cell 2
              have u3_ := (oD.up 2).cell 3
              have u4_ := (oD.up 2).cell 4
              go_simp
              exact hK.out (.agg #[.string YS, .int .i64 y1, .int .i64 y2, .int .i64 y3, .int .i64 y4]) _ ⟨oD, kD, HV.out.put 4 (fun _ h => some_eq h)⟩
            · have h3_ : L 3 = true := by simp [hd]
              have c28_ : ac.tmps[28]?.getD undef = .agg #[.string XS, .int .i64 x1, .int .i64 x2, .int .i64 x3, .int .i64 x4] := (hA.get 3 h3_).trans (HV.out 3 _ rfl h3_)
              have h4_ : L 4 = true := by simp [hd]
              have c29_ : ac.tmps[29]?.getD undef = .agg #[.string YS, .int .i64 y1, .int .i64 y2, .int .i64 y3, .int .i64 y4] := (hA.get 4 h4_).trans (HV.out 4 _ rfl h4_)
              go_simp
              refine (c2.out _ _ (oD.up 0)).mono ?_
              rintro _ w3_ ⟨rfl, o3_, k3_⟩
              exact hK.out (.bool false) _ ⟨o3_.re [0], kD.trans k3_, HV.out.put 5 (fun _ h => some_eq h)⟩
            · have h2_ : L 2 = true := by simp [hd]
              have c27_ : ac.tmps[27]?.getD undef = .bool false := (hA.get 2 h2_).trans (HV.out 2 _ rfl h2_)
              have h5_ : L 5 = true := by simp [hd]
              have c30_ : ac.tmps[30]?.getD undef = .bool false := (hA.get 5 h5_).trans (HV.out 5 _ rfl h5_)
              go_simp
              exact hK.out (.bool false) _ ⟨oD, kD, HV.out.put 6 (fun _ h => some_eq h)⟩
            · have h6_ : L 6 = true := by simp [hd]
              have c31_ : ac.tmps[31]?.getD undef = .bool false := (hA.get 6 h6_).trans (HV.out 6 _ rfl h6_)
              go_simp
              exact hK.out (.bool false) _ ⟨oD, kD, HV.out.put 7 (fun _ h => some_eq h)⟩
            · have c9_ := hA.base 9 (by rfl)
              simp only [List.getElem?_toArray, List.getElem?_cons_zero, List.getElem?_cons_succ, Option.getD_some] at c9_
              have u0_ := (oD.up 3).cell 0
              have u1_ := (oD.up 3).cell 1
              have u2_ := (oD.up 3).cell 2
              have u3_ := (oD.up 3).cell 3
              have u4_ := (oD.up 3).cell 4
              go_simp
              exact hK.out (.agg #[.string XS, .int .i64 x1, .int .i64 x2, .int .i64 x3, .int .i64 x4]) _ ⟨oD, kD, HV.out.put 8 (fun _ h => some_eq h)⟩
            · have c9_ := hA.base 9 (by rfl)
              simp only [List.getElem?_toArray, List.getElem?_cons_zero, List.getElem?_cons_succ, Option.getD_some] at c9_
              have u0_ := (oD.up 3).cell 0
              have u1_ := (oD.up 3).cell 1
              have u2_ := (oD.up 3).cell 2
              have u3_ := (oD.up 3).cell 3
              have u4_ := (oD.up 3).cell 4
              go_simp
              exact hK.out (.agg #[.string XS, .int .i64 x1, .int .i64 x2, .int .i64 x3, .int .i64 x4]) _ ⟨oD, kD, HV.out.put 9 (fun _ h => some_eq h)⟩
            · have h8_ : L 8 = true := by simp [hd]
              have c33_ : ac.tmps[33]?.getD undef = .agg #[.string XS, .int .i64 x1, .int .i64 x2, .int .i64 x3, .int .i64 x4] := (hA.get 8 h8_).trans (HV.out 8 _ rfl h8_)
              have h9_ : L 9 = true := by simp [hd]
              have c34_ : ac.tmps[34]?.getD undef = .agg #[.string XS, .int .i64 x1, .int .i64 x2, .int .i64 x3, .int .i64 x4] := (hA.get 9 h9_).trans (HV.out 9 _ rfl h9_)
              go_simp
              refine (c3.out _ _ (oD.up 0)).mono ?_
              rintro _ w3_ ⟨rfl, o3_, k3_⟩
              exact hK.out (.bool true) _ ⟨o3_.re [0], kD.trans k3_, HV.out.put 10 (fun _ h => some_eq h)⟩
            · have h10_ : L 10 = true := by simp [hd]
              have c35_ : ac.tmps[35]?.getD undef = .bool true := (hA.get 10 h10_).trans (HV.out 10 _ rfl h10_)
              go_simp
              exact hK.out (.bool false) _ ⟨oD, kD, HV.out.put 11 (fun _ h => some_eq h)⟩
            · have h7_ : L 7 = true := by simp [hd]
              have c32_ : ac.tmps[32]?.getD undef = .bool false := (hA.get 7 h7_).trans (HV.out 7 _ rfl h7_)
              have h11_ : L 11 = true := by simp [hd]
              have c36_ : ac.tmps[36]?.getD undef = .bool false := (hA.get 11 h11_).trans (HV.out 11 _ rfl h11_)
              go_simp
              exact hK.out (.bool false) _ ⟨oD, kD, HV.out.put 12 (fun _ h => some_eq h)⟩
            · have h12_ : L 12 = true := by simp [hd]
              have c37_ : ac.tmps[37]?.getD undef = .bool false := (hA.get 12 h12_).trans (HV.out 12 _ rfl h12_)
              go_simp
              exact hK.out (.bool false) _ ⟨oD, kD, HV.out.put 13 (fun _ h => some_eq h)⟩
            · have c9_ := hA.base 9 (by rfl)
              simp only [List.getElem?_toArray, List.getElem?_cons_zero, List.getElem?_cons_succ, Option.getD_some] at c9_
              have u0_ := (oD.up 3).cell 0
              have u1_ := (oD.up 3).cell 1
              have u2_ := (oD.up 3).cell 2
              have u3_ := (oD.up 3).cell 3
              have u4_ := (oD.up 3).cell 4
              go_simp
              exact hK.out (.agg #[.string XS, .int .i64 x1, .int .i64 x2, .int .i64 x3, .int .i64 x4]) _ ⟨oD, kD, HV.out.put 14 (fun _ h => some_eq h)⟩
            · have c10_ := hA.base 10 (by rfl)
              simp only [List.getElem?_toArray, List.getElem?_cons_zero, List.getElem?_cons_succ, Option.getD_some] at c10_
              have u0_ := (oD.up 2).cell 0
              have u1_ := (oD.up 2).cell 1
              have u2_ := (oD.up 2).cell 2
              have u3_ := (oD.up 2).cell 3
              have u4_ := (oD.up 2).cell 4
              go_simp
              exact hK.out (.agg #[.string YS, .int .i64 y1, .int .i64 y2, .int .i64 y3, .int .i64 y4]) _ ⟨oD, kD, HV.out.put 15 (fun _ h => some_eq h)⟩
            · have h14_ : L 14 = true := by simp [hd]
              have c39_ : ac.tmps[39]?.getD undef = .agg #[.string XS, .int .i64 x1, .int .i64 x2, .int .i64 x3, .int .i64 x4] := (hA.get 14 h14_).trans (HV.out 14 _ rfl h14_)
              have h15_ : L 15 = true := by simp [hd]
              have c40_ : ac.tmps[40]?.getD undef = .agg #[.string YS, .int .i64 y1, .int .i64 y2, .int .i64 y3, .int .i64 y4] := (hA.get 15 h15_).trans (HV.out 15 _ rfl h15_)
              go_simp
              refine (c1.out _ _ (oD.up 0)).mono ?_
              rintro _ w3_ ⟨rfl, o3_, k3_⟩
              exact hK.out (.bool false) _ ⟨o3_.re [0], kD.trans k3_, HV.out.put 16 (fun _ h => some_eq h)⟩
            · have h16_ : L 16 = true := by simp [hd]
              have c41_ : ac.tmps[41]?.getD undef = .bool false := (hA.get 16 h16_).trans (HV.out 16 _ rfl h16_)
              go_simp
              exact hK.out (.bool false) _ ⟨oD, kD, HV.out.put 17 (fun _ h => some_eq h)⟩
            · have h17_ : L 17 = true := by simp [hd]
              have c42_ : ac.tmps[42]?.getD undef = .bool false := (hA.get 17 h17_).trans (HV.out 17 _ rfl h17_)
              have h20_ : L 20 = true := by simp [hd]
              have c45_ : ac.tmps[45]?.getD undef = undef := (hA.get 20 h20_).trans (HV.out 20 _ rfl h20_)
              go_simp
              exact hK.out (.bool false) _ ⟨oD, kD, HV.out.put 21 (fun _ h => some_eq h)⟩
            · have h21_ : L 21 = true := by simp [hd]
              have c46_ : ac.tmps[46]?.getD undef = .bool false := (hA.get 21 h21_).trans (HV.out 21 _ rfl h21_)
              go_simp
              exact hK.out (.bool false) _ ⟨oD, kD, HV.out.put 22 (fun _ h => some_eq h)⟩
            · have h22_ : L 22 = true := by simp [hd]
              have c47_ : ac.tmps[47]?.getD undef = .bool false := (hA.get 22 h22_).trans (HV.out 22 _ rfl h22_)
              have h26_ : L 26 = true := by simp [hd]
              have c51_ : ac.tmps[51]?.getD undef = undef := (hA.get 26 h26_).trans (HV.out 26 _ rfl h26_)
              go_simp
              exact hK.out (.bool false) _ ⟨oD, kD, HV.out.put 27 (fun _ h => some_eq h)⟩
            · have h13_ : L 13 = true := by simp [hd]
              have c38_ : ac.tmps[38]?.getD undef = .bool false := (hA.get 13 h13_).trans (HV.out 13 _ rfl h13_)
              have h27_ : L 27 = true := by simp [hd]
              have c52_ : ac.tmps[52]?.getD undef = .bool false := (hA.get 27 h27_).trans (HV.out 27 _ rfl h27_)
              go_simp
              exact hK.out (.bool false) _ ⟨oD, kD, HV.out.put 28 (fun _ h => some_eq h)⟩
          case fin =>
            rintro L v wc hall ⟨oD, kD, hv⟩
            have h28 := hv 28 _ rfl (hall 28 (by decide))
            clear hv hall
            simp only [putAll, Act.put, List.setIfInBounds_toArray, List.set_cons_zero, List.set_cons_succ]
            go_wp2
            go_meet
            first | exact ⟨rfl, oD, kD⟩ | exact ⟨h28, oD, kD⟩
        | true =>
          cases zm with
          | false =>
            refine wp_region_draws (fun L v wc => Own wc (old w :: cel (g + 1 + 1) 29 [.string HS, .int .i64 h1, .int .i64 h2, .int .i64 h3, .int .i64 h4] :: cel (g + 1) 24 [.string YS, .int .i64 y1, .int .i64 y2, .int .i64 y3, .int .i64 y4] :: cel g 24 [.string XS, .int .i64 x1, .int .i64 x2, .int .i64 x3, .int .i64 x4] :: Ch w cb (17 * i + 6 + 6 + 5) :: cel (b4 + 1) 24 [.string BS, .int .i64 bc, .int .i64 bf, .int .i64 bl, .int .i64 bw] :: cel b4 24 [.string AS, .int .i64 aq, .int .i64 af, .int .i64 al, .int .i64 ay] :: []) ∧ Calm w wc ∧ OVals (fun i => ([some (.agg #[.string XS, .int .i64 x1, .int .i64 x2, .int .i64 x3, .int .i64 x4]), some (.agg #[.string YS, .int .i64 y1, .int .i64 y2, .int .i64 y3, .int .i64 y4]), some (.bool true), some (.agg #[.string XS, .int .i64 x1, .int .i64 x2, .int .i64 x3, .int .i64 x4]), some (.agg #[.string YS, .int .i64 y1, .int .i64 y2, .int .i64 y3, .int .i64 y4]), some (.bool true), some (.bool false), some (.bool false), some (.agg #[.string XS, .int .i64 x1, .int .i64 x2, .int .i64 x3, .int .i64 x4]), some (.agg #[.string XS, .int .i64 x1, .int .i64 x2, .int .i64 x3, .int .i64 x4]), some (.bool true), some (.bool false), some (.bool false), some (.bool false), some (.agg #[.string XS, .int .i64 x1, .int .i64 x2, .int .i64 x3, .int .i64 x4]), some (.agg #[.string YS, .int .i64 y1, .int .i64 y2, .int .i64 y3, .int .i64 y4]), some (.bool true), some (.bool true), some (.agg #[.string YS, .int .i64 y1, .int .i64 y2, .int .i64 y3, .int .i64 y4]), some (.agg #[.string HS, .int .i64 h1, .int .i64 h2, .int .i64 h3, .int .i64 h4]), some (.bool false), some (.bool false), some (.bool false), some (undef), some (undef), some (undef), some (undef), some (.bool false), some (.bool false)] : List (Option Value)).getD i none) L v) (by kernel_rfl) (by kernel_rfl) (by kernel_rfl) ?h0 ?step ?fin
            case h0 => exact ⟨o5.drew, ⟨k5.os, k5.tape, k5.output⟩, OVals.no⟩
            case step =>
              refine ⟨DrawStep.mk rfl ?_, DrawStep.mk rfl ?_, DrawStep.mk rfl ?_, DrawStep.mk rfl ?_, DrawStep.mk rfl ?_, DrawStep.mk rfl ?_, DrawStep.mk rfl ?_, DrawStep.mk rfl ?_, DrawStep.run rfl rfl (by kernel_rfl) (fun L v w hI hl => hI.2.2 7 _ rfl hl) ?_, DrawStep.run rfl rfl (by kernel_rfl) (fun L v w hI hl => hI.2.2 7 _ rfl hl) ?_, DrawStep.run rfl rfl (by kernel_rfl) (fun L v w hI hl => hI.2.2 7 _ rfl hl) ?_, DrawStep.run rfl rfl (by kernel_rfl) (fun L v w hI hl => hI.2.2 7 _ rfl hl) ?_, DrawStep.mk rfl ?_, DrawStep.mk rfl ?_, DrawStep.run rfl rfl (by kernel_rfl) (fun L v w hI hl => hI.2.2 13 _ rfl hl) ?_, DrawStep.run rfl rfl (by kernel_rfl) (fun L v w hI hl => hI.2.2 13 _ rfl hl) ?_, DrawStep.run rfl rfl (by kernel_rfl) (fun L v w hI hl => hI.2.2 13 _ rfl hl) ?_, DrawStep.run rfl rfl (by kernel_rfl) (fun L v w hI hl => hI.2.2 13 _ rfl hl) ?_, DrawStep.run rfl rfl (by kernel_rfl) (fun L v w hI hl => hI.2.2 17 _ rfl hl) ?_, DrawStep.run rfl rfl (by kernel_rfl) (fun L v w hI hl => hI.2.2 17 _ rfl hl) ?_, DrawStep.run rfl rfl (by kernel_rfl) (fun L v w hI hl => hI.2.2 17 _ rfl hl) ?_, DrawStep.run rfl rfl (by kernel_rfl) (fun L v w hI hl => hI.2.2 13 _ rfl hl) ?_, DrawStep.run rfl rfl (by kernel_rfl) (fun L v w hI hl => hI.2.2 13 _ rfl hl) ?_, DrawStep.skip rfl rfl (by kernel_rfl) (fun L v w hI hl => hI.2.2 22 _ rfl hl) (fun L v w hL hI => ⟨hI.1, hI.2.1, hI.2.2.put 23 (fun _ h => some_eq h)⟩), DrawStep.skip rfl rfl (by kernel_rfl) (fun L v w hI hl => hI.2.2 22 _ rfl hl) (fun L v w hL hI => ⟨hI.1, hI.2.1, hI.2.2.put 24 (fun _ h => some_eq h)⟩), DrawStep.skip rfl rfl (by kernel_rfl) (fun L v w hI hl => hI.2.2 22 _ rfl hl) (fun L v w hL hI => ⟨hI.1, hI.2.1, hI.2.2.put 25 (fun _ h => some_eq h)⟩), DrawStep.skip rfl rfl (by kernel_rfl) (fun L v w hI hl => hI.2.2 22 _ rfl hl) (fun L v w hL hI => ⟨hI.1, hI.2.1, hI.2.2.put 26 (fun _ h => some_eq h)⟩), DrawStep.run rfl rfl (by kernel_rfl) (fun L v w hI hl => hI.2.2 13 _ rfl hl) ?_, DrawStep.mk rfl ?_, trivial⟩
              all_goals intro L v ac wc hL hd hA hI K' hK
              all_goals obtain ⟨oD, kD, hv⟩ := hI
              all_goals simp [Region.binds] at hd
              all_goals have HV := Lib.hid hv
              all_goals clear hv
              · have c9_ := hA.base 9 (by rfl)
                simp only [List.getElem?_toArray, List.getElem?_cons_zero, List.getElem?_cons_succ, Option.getD_some] at c9_
                have u0_ := (oD.up 3).cell 0
                have u1_ := (oD.up 3).cell 1
                have u2_ := (oD.up 3).cell 2
                have u3_ := (oD.up 3).cell 3
                have u4_ := (oD.up 3).cell 4
                go_simp
                exact hK.out (.agg #[.string XS, .int .i64 x1, .int .i64 x2, .int .i64 x3, .int .i64 x4]) _ ⟨oD, kD, HV.out.put 0 (fun _ h => some_eq h)⟩
              · have c10_ := hA.base 10 (by rfl)
                simp only [List.getElem?_toArray, List.getElem?_cons_zero, List.getElem?_cons_succ, Option.getD_some] at c10_
                have u0_ := (oD.up 2).cell 0
                have u1_ := (oD.up 2).cell 1
                have u2_ := (oD.up 2).cell 2
                have u3_ := (oD.up 2).cell 3
                have u4_ := (oD.up 2).cell 4
                go_simp
                exact hK.out (.agg #[.string YS, .int .i64 y1, .int .i64 y2, .int .i64 y3, .int .i64 y4]) _ ⟨oD, kD, HV.out.put 1 (fun _ h => some_eq h)⟩
              · have h0_ : L 0 = true := by simp [hd]
                have c25_ : ac.tmps[25]?.getD undef = .agg #[.string XS, .int .i64 x1, .int .i64 x2, .int .i64 x3, .int .i64 x4] := (hA.get 0 h0_).trans (HV.out 0 _ rfl h0_)
                have h1_ : L 1 = true := by simp [hd]
                have c26_ : ac.tmps[26]?.getD undef = .agg #[.string YS, .int .i64 y1, .int .i64 y2, .int .i64 y3, .int .i64 y4] := (hA.get 1 h1_).trans (HV.out 1 _ rfl h1_)
                go_simp
                refine (c1.out _ _ (oD.up 0)).mono ?_
                rintro _ w3_ ⟨rfl, o3_, k3_⟩
                exact hK.out (.bool true) _ ⟨o3_.re [0], kD.trans k3_, HV.out.put 2 (fun _ h => some_eq h)⟩
              · have c9_ := hA.base 9 (by rfl)
                simp only [List.getElem?_toArray, List.getElem?_cons_zero, List.getElem?_cons_succ, Option.getD_some] at c9_
                have u0_ := (oD.up 3).cell 0
                have u1_ := (oD.up 3).cell 1
                have u2_ := (oD.up 3).cell 2
                have u3_ := (oD.up 3).cell 3
                have u4_ := (oD.up 3).cell 4
                go_simp
                exact hK.out (.agg #[.string XS, .int .i64 x1, .int .i64 x2, .int .i64 x3, .int .i64 x4]) _ ⟨oD, kD, HV.out.put 3 (fun _ h => some_eq h)⟩
              · have c10_ := hA.base 10 (by rfl)
                simp only [List.getElem?_toArray, List.getElem?_cons_zero, List.getElem?_cons_succ, Option.getD_some] at c10_
                have u0_ := (oD.up 2).cell 0
                have u1_ := (oD.up 2).cell 1
                have u2_ := (oD.up 2).cell 2
                have u3_ := (oD.up 2).cell 3
                have u4_ := (oD.up 2).cell 4
                go_simp
                exact hK.out (.agg #[.string YS, .int .i64 y1, .int .i64 y2, .int .i64 y3, .int .i64 y4]) _ ⟨oD, kD, HV.out.put 4 (fun _ h => some_eq h)⟩
              · have h3_ : L 3 = true := by simp [hd]
                have c28_ : ac.tmps[28]?.getD undef = .agg #[.string XS, .int .i64 x1, .int .i64 x2, .int .i64 x3, .int .i64 x4] := (hA.get 3 h3_).trans (HV.out 3 _ rfl h3_)
                have h4_ : L 4 = true := by simp [hd]
                have c29_ : ac.tmps[29]?.getD undef = .agg #[.string YS, .int .i64 y1, .int .i64 y2, .int .i64 y3, .int .i64 y4] := (hA.get 4 h4_).trans (HV.out 4 _ rfl h4_)
                go_simp
                refine (c2.out _ _ (oD.up 0)).mono ?_
                rintro _ w3_ ⟨rfl, o3_, k3_⟩
                exact hK.out (.bool true) _ ⟨o3_.re [0], kD.trans k3_, HV.out.put 5 (fun _ h => some_eq h)⟩
              · have h2_ : L 2 = true := by simp [hd]
                have c27_ : ac.tmps[27]?.getD undef = .bool true := (hA.get 2 h2_).trans (HV.out 2 _ rfl h2_)
                have h5_ : L 5 = true := by simp [hd]
                have c30_ : ac.tmps[30]?.getD undef = .bool true := (hA.get 5 h5_).trans (HV.out 5 _ rfl h5_)
                go_simp
                exact hK.out (.bool false) _ ⟨oD, kD, HV.out.put 6 (fun _ h => some_eq h)⟩
              · have h6_ : L 6 = true := by simp [hd]
                have c31_ : ac.tmps[31]?.getD undef = .bool false := (hA.get 6 h6_).trans (HV.out 6 _ rfl h6_)
                go_simp
                exact hK.out (.bool false) _ ⟨oD, kD, HV.out.put 7 (fun _ h => some_eq h)⟩
              · have c9_ := hA.base 9 (by rfl)
                simp only [List.getElem?_toArray, List.getElem?_cons_zero, List.getElem?_cons_succ, Option.getD_some] at c9_
                have u0_ := (oD.up 3).cell 0
                have u1_ := (oD.up 3).cell 1
                have u2_ := (oD.up 3).cell 2
                have u3_ := (oD.up 3).cell 3
                have u4_ := (oD.up 3).cell 4
                go_simp
                exact hK.out (.agg #[.string XS, .int .i64 x1, .int .i64 x2, .int .i64 x3, .int .i64 x4]) _ ⟨oD, kD, HV.out.put 8 (fun _ h => some_eq h)⟩
              · have c9_ := hA.base 9 (by rfl)
                simp only [List.getElem?_toArray, List.getElem?_cons_zero, List.getElem?_cons_succ, Option.getD_some] at c9_
                have u0_ := (oD.up 3).cell 0
                have u1_ := (oD.up 3).cell 1
                have u2_ := (oD.up 3).cell 2
                have u3_ := (oD.up 3).cell 3
                have u4_ := (oD.up 3).cell 4
                go_simp
                exact hK.out (.agg #[.string XS, .int .i64 x1, .int .i64 x2, .int .i64 x3, .int .i64 x4]) _ ⟨oD, kD, HV.out.put 9 (fun _ h => some_eq h)⟩
              · have h8_ : L 8 = true := by simp [hd]
                have c33_ : ac.tmps[33]?.getD undef = .agg #[.string XS, .int .i64 x1, .int .i64 x2, .int .i64 x3, .int .i64 x4] := (hA.get 8 h8_).trans (HV.out 8 _ rfl h8_)
                have h9_ : L 9 = true := by simp [hd]
                have c34_ : ac.tmps[34]?.getD undef = .agg #[.string XS, .int .i64 x1, .int .i64 x2, .int .i64 x3, .int .i64 x4] := (hA.get 9 h9_).trans (HV.out 9 _ rfl h9_)
                go_simp
                refine (c3.out _ _ (oD.up 0)).mono ?_
                rintro _ w3_ ⟨rfl, o3_, k3_⟩
                exact hK.out (.bool true) _ ⟨o3_.re [0], kD.trans k3_, HV.out.put 10 (fun _ h => some_eq h)⟩
              · have h10_ : L 10 = true := by simp [hd]
                have c35_ : ac.tmps[35]?.getD undef = .bool true := (hA.get 10 h10_).trans (HV.out 10 _ rfl h10_)
                go_simp
                exact hK.out (.bool false) _ ⟨oD, kD, HV.out.put 11 (fun _ h => some_eq h)⟩
              · have h7_ : L 7 = true := by simp [hd]
                have c32_ : ac.tmps[32]?.getD undef = .bool false := (hA.get 7 h7_).trans (HV.out 7 _ rfl h7_)
                have h11_ : L 11 = true := by simp [hd]
                have c36_ : ac.tmps[36]?.getD undef = .bool false := (hA.get 11 h11_).trans (HV.out 11 _ rfl h11_)
                go_simp
                exact hK.out (.bool false) _ ⟨oD, kD, HV.out.put 12 (fun _ h => some_eq h)⟩
              · have h12_ : L 12 = true := by simp [hd]
                have c37_ : ac.tmps[37]?.getD undef = .bool false := (hA.get 12 h12_).trans (HV.out 12 _ rfl h12_)
                go_simp
                exact hK.out (.bool false) _ ⟨oD, kD, HV.out.put 13 (fun _ h => some_eq h)⟩
              · have c9_ := hA.base 9 (by rfl)
                simp only [List.getElem?_toArray, List.getElem?_cons_zero, List.getElem?_cons_succ, Option.getD_some] at c9_
                have u0_ := (oD.up 3).cell 0
                have u1_ := (oD.up 3).cell 1
                have u2_ := (oD.up 3).cell 2
                have u3_ := (oD.up 3).cell 3
                have u4_ := (oD.up 3).cell 4
                go_simp
                exact hK.out (.agg #[.string XS, .int .i64 x1, .int .i64 x2, .int .i64 x3, .int .i64 x4]) _ ⟨oD, kD, HV.out.put 14 (fun _ h => some_eq h)⟩
              · have c10_ := hA.base 10 (by rfl)
                simp only [List.getElem?_toArray, List.getElem?_cons_zero, List.getElem?_cons_succ, Option.getD_some] at c10_
                have u0_ := (oD.up 2).cell 0
                have u1_ := (oD.up 2).cell 1
                have u2_ := (oD.up 2).cell 2
                have u3_ := (oD.up 2).cell 3
                have u4_ := (oD.up 2).cell 4
                go_simp
                exact hK.out (.agg #[.string YS, .int .i64 y1, .int .i64 y2, .int .i64 y3, .int .i64 y4]) _ ⟨oD, kD, HV.out.put 15 (fun _ h => some_eq h)⟩
              · have h14_ : L 14 = true := by simp [hd]
                have c39_ : ac.tmps[39]?.getD undef = .agg #[.string XS, .int .i64 x1, .int .i64 x2, .int .i64 x3, .int .i64 x4] := (hA.get 14 h14_).trans (HV.out 14 _ rfl h14_)
                have h15_ : L 15 = true := by simp [hd]
                have c40_ : ac.tmps[40]?.getD undef = .agg #[.string YS, .int .i64 y1, .int .i64 y2, .int .i64 y3, .int .i64 y4] := (hA.get 15 h15_).trans (HV.out 15 _ rfl h15_)
                go_simp
                refine (c1.out _ _ (oD.up 0)).mono ?_
                rintro _ w3_ ⟨rfl, o3_, k3_⟩
                exact hK.out (.bool true) _ ⟨o3_.re [0], kD.trans k3_, HV.out.put 16 (fun _ h => some_eq h)⟩
              · have h16_ : L 16 = true := by simp [hd]
                have c41_ : ac.tmps[41]?.getD undef = .bool true := (hA.get 16 h16_).trans (HV.out 16 _ rfl h16_)
                go_simp
                exact hK.out (.bool true) _ ⟨oD, kD, HV.out.put 17 (fun _ h => some_eq h)⟩
              · have c10_ := hA.base 10 (by rfl)
                simp only [List.getElem?_toArray, List.getElem?_cons_zero, List.getElem?_cons_succ, Option.getD_some] at c10_
                have u0_ := (oD.up 2).cell 0
                have u1_ := (oD.up 2).cell 1
                have u2_ := (oD.up 2).cell 2
                have u3_ := (oD.up 2).cell 3
                have u4_ := (oD.up 2).cell 4
                go_simp
                exact hK.out (.agg #[.string YS, .int .i64 y1, .int .i64 y2, .int .i64 y3, .int .i64 y4]) _ ⟨oD, kD, HV.out.put 18 (fun _ h => some_eq h)⟩
              · have c11_ := hA.base 11 (by rfl)
                simp only [List.getElem?_toArray, List.getElem?_cons_zero, List.getElem?_cons_succ, Option.getD_some] at c11_
                have u0_ := (oD.up 1).cell 0
                have u1_ := (oD.up 1).cell 1
                have u2_ := (oD.up 1).cell 2
                have u3_ := (oD.up 1).cell 3
                have u4_ := (oD.up 1).cell 4
                go_simp
                exact hK.out (.agg #[.string HS, .int .i64 h1, .int .i64 h2, .int .i64 h3, .int .i64 h4]) _ ⟨oD, kD, HV.out.put 19 (fun _ h => some_eq h)⟩
              · have h18_ : L 18 = true := by simp [hd]
                have c43_ : ac.tmps[43]?.getD undef = .agg #[.string YS, .int .i64 y1, .int .i64 y2, .int .i64 y3, .int .i64 y4] := (hA.get 18 h18_).trans (HV.out 18 _ rfl h18_)
                have h19_ : L 19 = true := by simp [hd]
                have c44_ : ac.tmps[44]?.getD undef = .agg #[.string HS, .int .i64 h1, .int .i64 h2, .int .i64 h3, .int .i64 h4] := (hA.get 19 h19_).trans (HV.out 19 _ rfl h19_)
                go_simp
                refine (c4.out _ _ (oD.up 0)).mono ?_
                rintro _ w3_ ⟨rfl, o3_, k3_⟩
                exact hK.out (.bool false) _ ⟨o3_.re [0], kD.trans k3_, HV.out.put 20 (fun _ h => some_eq h)⟩
              · have h17_ : L 17 = true := by simp [hd]
                have c42_ : ac.tmps[42]?.getD undef = .bool true := (hA.get 17 h17_).trans (HV.out 17 _ rfl h17_)
                have h20_ : L 20 = true := by simp [hd]
                have c45_ : ac.tmps[45]?.getD undef = .bool false := (hA.get 20 h20_).trans (HV.out 20 _ rfl h20_)
                go_simp
                exact hK.out (.bool false) _ ⟨oD, kD, HV.out.put 21 (fun _ h => some_eq h)⟩
              · have h21_ : L 21 = true := by simp [hd]
                have c46_ : ac.tmps[46]?.getD undef = .bool false := (hA.get 21 h21_).trans (HV.out 21 _ rfl h21_)
                go_simp
                exact hK.out (.bool false) _ ⟨oD, kD, HV.out.put 22 (fun _ h => some_eq h)⟩
              · have h22_ : L 22 = true := by simp [hd]
                have c47_ : ac.tmps[47]?.getD undef = .bool false := (hA.get 22 h22_).trans (HV.out 22 _ rfl h22_)
                have h26_ : L 26 = true := by simp [hd]
                have c51_ : ac.tmps[51]?.getD undef = undef := (hA.get 26 h26_).trans (HV.out 26 _ rfl h26_)
                go_simp
                exact hK.out (.bool false) _ ⟨oD, kD, HV.out.put 27 (fun _ h => some_eq h)⟩
              · have h13_ : L 13 = true := by simp [hd]
                have c38_ : ac.tmps[38]?.getD undef = .bool false := (hA.get 13 h13_).trans (HV.out 13 _ rfl h13_)
                have h27_ : L 27 = true := by simp [hd]
                have c52_ : ac.tmps[52]?.getD undef = .bool false := (hA.get 27 h27_).trans (HV.out 27 _ rfl h27_)
                go_simp
                exact hK.out (.bool false) _ ⟨oD, kD, HV.out.put 28 (fun _ h => some_eq h)⟩
            case fin =>
              rintro L v wc hall ⟨oD, kD, hv⟩
              have h28 := hv 28 _ rfl (hall 28 (by decide))
              clear hv hall
              simp only [putAll, Act.put, List.setIfInBounds_toArray, List.set_cons_zero, List.set_cons_succ]
              go_wp2
              go_meet
              first | exact ⟨rfl, oD, kD⟩ | exact ⟨h28, oD, kD⟩
          | true =>
            have hzn : zn = true := hz rfl rfl
            subst hzn
            refine wp_region_draws (fun L v wc => Own wc (old w :: cel (g + 1 + 1) 29 [.string HS, .int .i64 h1, .int .i64 h2, .int .i64 h3, .int .i64 h4] :: cel (g + 1) 24 [.string YS, .int .i64 y1, .int .i64 y2, .int .i64 y3, .int .i64 y4] :: cel g 24 [.string XS, .int .i64 x1, .int .i64 x2, .int .i64 x3, .int .i64 x4] :: Ch w cb (17 * i + 6 + 6 + 5) :: cel (b4 + 1) 24 [.string BS, .int .i64 bc, .int .i64 bf, .int .i64 bl, .int .i64 bw] :: cel b4 24 [.string AS, .int .i64 aq, .int .i64 af, .int .i64 al, .int .i64 ay] :: []) ∧ Calm w wc ∧ OVals (fun i => ([some (.agg #[.string XS, .int .i64 x1, .int .i64 x2, .int .i64 x3, .int .i64 x4]), some (.agg #[.string YS, .int .i64 y1, .int .i64 y2, .int .i64 y3, .int .i64 y4]), some (.bool true), some (.agg #[.string XS, .int .i64 x1, .int .i64 x2, .int .i64 x3, .int .i64 x4]), some (.agg #[.string YS, .int .i64 y1, .int .i64 y2, .int .i64 y3, .int .i64 y4]), some (.bool true), some (.bool false), some (.bool false), some (.agg #[.string XS, .int .i64 x1, .int .i64 x2, .int .i64 x3, .int .i64 x4]), some (.agg #[.string XS, .int .i64 x1, .int .i64 x2, .int .i64 x3, .int .i64 x4]), some (.bool true), some (.bool false), some (.bool false), some (.bool false), some (.agg #[.string XS, .int .i64 x1, .int .i64 x2, .int .i64 x3, .int .i64 x4]), some (.agg #[.string YS, .int .i64 y1, .int .i64 y2, .int .i64 y3, .int .i64 y4]), some (.bool true), some (.bool true), some (.agg #[.string YS, .int .i64 y1, .int .i64 y2, .int .i64 y3, .int .i64 y4]), some (.agg #[.string HS, .int .i64 h1, .int .i64 h2, .int .i64 h3, .int .i64 h4]), some (.bool true), some (.bool true), some (.bool true), some (.agg #[.string XS, .int .i64 x1, .int .i64 x2, .int .i64 x3, .int .i64 x4]), some (.agg #[.string HS, .int .i64 h1, .int .i64 h2, .int .i64 h3, .int .i64 h4]), some (.bool true), some (.bool false), some (.bool false), some (.bool false)] : List (Option Value)).getD i none) L v) (by kernel_rfl) (by kernel_rfl) (by kernel_rfl) ?h0 ?step ?fin
            case h0 => exact ⟨o5.drew, ⟨k5.os, k5.tape, k5.output⟩, OVals.no⟩
            case step =>
              refine ⟨DrawStep.mk rfl ?_, DrawStep.mk rfl ?_, DrawStep.mk rfl ?_, DrawStep.mk rfl ?_, DrawStep.mk rfl ?_, DrawStep.mk rfl ?_, DrawStep.mk rfl ?_, DrawStep.mk rfl ?_, DrawStep.run rfl rfl (by kernel_rfl) (fun L v w hI hl => hI.2.2 7 _ rfl hl) ?_, DrawStep.run rfl rfl (by kernel_rfl) (fun L v w hI hl => hI.2.2 7 _ rfl hl) ?_, DrawStep.run rfl rfl (by kernel_rfl) (fun L v w hI hl => hI.2.2 7 _ rfl hl) ?_, DrawStep.run rfl rfl (by kernel_rfl) (fun L v w hI hl => hI.2.2 7 _ rfl hl) ?_, DrawStep.mk rfl ?_, DrawStep.mk rfl ?_, DrawStep.run rfl rfl (by kernel_rfl) (fun L v w hI hl => hI.2.2 13 _ rfl hl) ?_, DrawStep.run rfl rfl (by kernel_rfl) (fun L v w hI hl => hI.2.2 13 _ rfl hl) ?_, DrawStep.run rfl rfl (by kernel_rfl) (fun L v w hI hl => hI.2.2 13 _ rfl hl) ?_, DrawStep.run rfl rfl (by kernel_rfl) (fun L v w hI hl => hI.2.2 13 _ rfl hl) ?_, DrawStep.run rfl rfl (by kernel_rfl) (fun L v w hI hl => hI.2.2 17 _ rfl hl) ?_, DrawStep.run rfl rfl (by kernel_rfl) (fun L v w hI hl => hI.2.2 17 _ rfl hl) ?_, DrawStep.run rfl rfl (by kernel_rfl) (fun L v w hI hl => hI.2.2 17 _ rfl hl) ?_, DrawStep.run rfl rfl (by kernel_rfl) (fun L v w hI hl => hI.2.2 13 _ rfl hl) ?_, DrawStep.run rfl rfl (by kernel_rfl) (fun L v w hI hl => hI.2.2 13 _ rfl hl) ?_, DrawStep.run rfl rfl (by kernel_rfl) (fun L v w hI hl => hI.2.2 22 _ rfl hl) ?_, DrawStep.run rfl rfl (by kernel_rfl) (fun L v w hI hl => hI.2.2 22 _ rfl hl) ?_, DrawStep.run rfl rfl (by kernel_rfl) (fun L v w hI hl => hI.2.2 22 _ rfl hl) ?_, DrawStep.run rfl rfl (by kernel_rfl) (fun L v w hI hl => hI.2.2 22 _ rfl hl) ?_, DrawStep.run rfl rfl (by kernel_rfl) (fun L v w hI hl => hI.2.2 13 _ rfl hl) ?_, DrawStep.mk rfl ?_, trivial⟩
              all_goals intro L v ac wc hL hd hA hI K' hK
              all_goals obtain ⟨oD, kD, hv⟩ := hI
              all_goals simp [Region.binds] at hd
              all_goals have HV := Lib.hid hv
              all_goals clear hv
              · have c9_ := hA.base 9 (by rfl)
                simp only [List.getElem?_toArray, List.getElem?_cons_zero, List.getElem?_cons_succ, Option.getD_some] at c9_
                have u0_ := (oD.up 3).cell 0
                have u1_ := (oD.up 3).cell 1
                have u2_ := (oD.up 3).cell 2
                have u3_ := (oD.up 3).cell 3
                have u4_ := (oD.up 3).cell 4
                go_simp
                exact hK.out (.agg #[.string XS, .int .i64 x1, .int .i64 x2, .int .i64 x3, .int .i64 x4]) _ ⟨oD, kD, HV.out.put 0 (fun _ h => some_eq h)⟩
              · have c10_ := hA.base 10 (by rfl)
                simp only [List.getElem?_toArray, List.getElem?_cons_zero, List.getElem?_cons_succ, Option.getD_some] at c10_
                have u0_ := (oD.up 2).cell 0
                have u1_ := (oD.up 2).cell 1
                have u2_ := (oD.up 2).cell 2
                have u3_ := (oD.up 2).cell 3
                have u4_ := (oD.up 2).cell 4
                go_simp
                exact hK.out (.agg #[.string YS, .int .i64 y1, .int .i64 y2, .int .i64 y3, .int .i64 y4]) _ ⟨oD, kD, HV.out.put 1 (fun _ h => some_eq h)⟩
              · have h0_ : L 0 = true := by simp [hd]
                have c25_ : ac.tmps[25]?.getD undef = .agg #[.string XS, .int .i64 x1, .int .i64 x2, .int .i64 x3, .int .i64 x4] := (hA.get 0 h0_).trans (HV.out 0 _ rfl h0_)
                have h1_ : L 1 = true := by simp [hd]
                have c26_ : ac.tmps[26]?.getD undef = .agg #[.string YS, .int .i64 y1, .int .i64 y2, .int .i64 y3, .int .i64 y4] := (hA.get 1 h1_).trans (HV.out 1 _ rfl h1_)
                go_simp
                refine (c1.out _ _ (oD.up 0)).mono ?_
                rintro _ w3_ ⟨rfl, o3_, k3_⟩
                exact hK.out (.bool true) _ ⟨o3_.re [0], kD.trans k3_, HV.out.put 2 (fun _ h => some_eq h)⟩
              · have c9_ := hA.base 9 (by rfl)
                simp only [List.getElem?_toArray, List.getElem?_cons_zero, List.getElem?_cons_succ, Option.getD_some] at c9_
                have u0_ := (oD.up 3).cell 0
                have u1_ := (oD.up 3).cell 1
                have u2_ := (oD.up 3).cell 2
                have u3_ := (oD.up 3).cell 3
                have u4_ := (oD.up 3).cell 4
                go_simp
                exact hK.out (.agg #[.string XS, .int .i64 x1, .int .i64 x2, .int .i64 x3, .int .i64 x4]) _ ⟨oD, kD, HV.out.put 3 (fun _ h => some_eq h)⟩
              · have c10_ := hA.base 10 (by rfl)
                simp only [List.getElem?_toArray, List.getElem?_cons_zero, List.getElem?_cons_succ, Option.getD_some] at c10_
                have u0_ := (oD.up 2).cell 0
                have u1_ := (oD.up 2).cell 1
                have u2_ := (oD.up 2).cell 2
                have u3_ := (oD.up 2).cell 3
                have u4_ := (oD.up 2).cell 4
                go_simp
                exact hK.out (.agg #[.string YS, .int .i64 y1, .int .i64 y2, .int .i64 y3, .int .i64 y4]) _ ⟨oD, kD, HV.out.put 4 (fun _ h => some_eq h)⟩
              · have h3_ : L 3 = true := by simp [hd]
                have c28_ : ac.tmps[28]?.getD undef = .agg #[.string XS, .int .i64 x1, .int .i64 x2, .int .i64 x3, .int .i64 x4] := (hA.get 3 h3_).trans (HV.out 3 _ rfl h3_)
                have h4_ : L 4 = true := by simp [hd]
                have c29_ : ac.tmps[29]?.getD undef = .agg #[.string YS, .int .i64 y1, .int .i64 y2, .int .i64 y3, .int .i64 y4] := (hA.get 4 h4_).trans (HV.out 4 _ rfl h4_)
                go_simp
                refine (c2.out _ _ (oD.up 0)).mono ?_
                rintro _ w3_ ⟨rfl, o3_, k3_⟩
                exact hK.out (.bool true) _ ⟨o3_.re [0], kD.trans k3_, HV.out.put 5 (fun _ h => some_eq h)⟩
              · have h2_ : L 2 = true := by simp [hd]
                have c27_ : ac.tmps[27]?.getD undef = .bool true := (hA.get 2 h2_).trans (HV.out 2 _ rfl h2_)
                have h5_ : L 5 = true := by simp [hd]
                have c30_ : ac.tmps[30]?.getD undef = .bool true := (hA.get 5 h5_).trans (HV.out 5 _ rfl h5_)
                go_simp
                exact hK.out (.bool false) _ ⟨oD, kD, HV.out.put 6 (fun _ h => some_eq h)⟩
              · have h6_ : L 6 = true := by simp [hd]
                have c31_ : ac.tmps[31]?.getD undef = .bool false := (hA.get 6 h6_).trans (HV.out 6 _ rfl h6_)
                go_simp
                exact hK.out (.bool false) _ ⟨oD, kD, HV.out.put 7 (fun _ h => some_eq h)⟩
              · have c9_ := hA.base 9 (by rfl)
                simp only [List.getElem?_toArray, List.getElem?_cons_zero, List.getElem?_cons_succ, Option.getD_some] at c9_
                have u0_ := (oD.up 3).cell 0
                have u1_ := (oD.up 3).cell 1
                have u2_ := (oD.up 3).cell 2
                have u3_ := (oD.up 3).cell 3
                have u4_ := (oD.up 3).cell 4
                go_simp
                exact hK.out (.agg #[.string XS, .int .i64 x1, .int .i64 x2, .int .i64 x3, .int .i64 x4]) _ ⟨oD, kD, HV.out.put 8 (fun _ h => some_eq h)⟩
              · have c9_ := hA.base 9 (by rfl)
                simp only [List.getElem?_toArray, List.getElem?_cons_zero, List.getElem?_cons_succ, Option.getD_some] at c9_
                have u0_ := (oD.up 3).cell 0
                have u1_ := (oD.up 3).cell 1
                have u2_ := (oD.up 3).cell 2
                have u3_ := (oD.up 3).cell 3
                have u4_ := (oD.up 3).cell 4
                go_simp
                exact hK.out (.agg #[.string XS, .int .i64 x1, .int .i64 x2, .int .i64 x3, .int .i64 x4]) _ ⟨oD, kD, HV.out.put 9 (fun _ h => some_eq h)⟩
              · have h8_ : L 8 = true := by simp [hd]
                have c33_ : ac.tmps[33]?.getD undef = .agg #[.string XS, .int .i64 x1, .int .i64 x2, .int .i64 x3, .int .i64 x4] := (hA.get 8 h8_).trans (HV.out 8 _ rfl h8_)
                have h9_ : L 9 = true := by simp [hd]
                have c34_ : ac.tmps[34]?.getD undef = .agg #[.string XS, .int .i64 x1, .int .i64 x2, .int .i64 x3, .int .i64 x4] := (hA.get 9 h9_).trans (HV.out 9 _ rfl h9_)
                go_simp
                refine (c3.out _ _ (oD.up 0)).mono ?_
                rintro _ w3_ ⟨rfl, o3_, k3_⟩
                exact hK.out (.bool true) _ ⟨o3_.re [0], kD.trans k3_, HV.out.put 10 (fun _ h => some_eq h)⟩
              · have h10_ : L 10 = true := by simp [hd]
                have c35_ : ac.tmps[35]?.getD undef = .bool true := (hA.get 10 h10_).trans (HV.out 10 _ rfl h10_)
                go_simp
                exact hK.out (.bool false) _ ⟨oD, kD, HV.out.put 11 (fun _ h => some_eq h)⟩
              · have h7_ : L 7 = true := by simp [hd]
                have c32_ : ac.tmps[32]?.getD undef = .bool false := (hA.get 7 h7_).trans (HV.out 7 _ rfl h7_)
                have h11_ : L 11 = true := by simp [hd]
                have c36_ : ac.tmps[36]?.getD undef = .bool false := (hA.get 11 h11_).trans (HV.out 11 _ rfl h11_)
                go_simp
                exact hK.out (.bool false) _ ⟨oD, kD, HV.out.put 12 (fun _ h => some_eq h)⟩
              · have h12_ : L 12 = true := by simp [hd]
                have c37_ : ac.tmps[37]?.getD undef = .bool false := (hA.get 12 h12_).trans (HV.out 12 _ rfl h12_)
                go_simp
                exact hK.out (.bool false) _ ⟨oD, kD, HV.out.put 13 (fun _ h => some_eq h)⟩
              · have c9_ := hA.base 9 (by rfl)
                simp only [List.getElem?_toArray, List.getElem?_cons_zero, List.getElem?_cons_succ, Option.getD_some] at c9_
                have u0_ := (oD.up 3).cell 0
                have u1_ := (oD.up 3).cell 1
                have u2_ := (oD.up 3).cell 2
                have u3_ := (oD.up 3).cell 3
                have u4_ := (oD.up 3).cell 4
                go_simp
                exact hK.out (.agg #[.string XS, .int .i64 x1, .int .i64 x2, .int .i64 x3, .int .i64 x4]) _ ⟨oD, kD, HV.out.put 14 (fun _ h => some_eq h)⟩
              · have c10_ := hA.base 10 (by rfl)
                simp only [List.getElem?_toArray, List.getElem?_cons_zero, List.getElem?_cons_succ, Option.getD_some] at c10_
                have u0_ := (oD.up 2).cell 0
                have u1_ := (oD.up 2).cell 1
                have u2_ := (oD.up 2).cell 2
                have u3_ := (oD.up 2).cell 3
                have u4_ := (oD.up 2).cell 4
                go_simp
                exact hK.out (.agg #[.string YS, .int .i64 y1, .int .i64 y2, .int .i64 y3, .int .i64 y4]) _ ⟨oD, kD, HV.out.put 15 (fun _ h => some_eq h)⟩
              · have h14_ : L 14 = true := by simp [hd]
                have c39_ : ac.tmps[39]?.getD undef = .agg #[.string XS, .int .i64 x1, .int .i64 x2, .int .i64 x3, .int .i64 x4] := (hA.get 14 h14_).trans (HV.out 14 _ rfl h14_)
                have h15_ : L 15 = true := by simp [hd]
                have c40_ : ac.tmps[40]?.getD undef = .agg #[.string YS, .int .i64 y1, .int .i64 y2, .int .i64 y3, .int .i64 y4] := (hA.get 15 h15_).trans (HV.out 15 _ rfl h15_)
                go_simp
                refine (c1.out _ _ (oD.up 0)).mono ?_
                rintro _ w3_ ⟨rfl, o3_, k3_⟩
                exact hK.out (.bool true) _ ⟨o3_.re [0], kD.trans k3_, HV.out.put 16 (fun _ h => some_eq h)⟩
              · have h16_ : L 16 = true := by simp [hd]
                have c41_ : ac.tmps[41]?.getD undef = .bool true := (hA.get 16 h16_).trans (HV.out 16 _ rfl h16_)
                go_simp
                exact hK.out (.bool true) _ ⟨oD, kD, HV.out.put 17 (fun _ h => some_eq h)⟩
              · have c10_ := hA.base 10 (by rfl)
                simp only [List.getElem?_toArray, List.getElem?_cons_zero, List.getElem?_cons_succ, Option.getD_some] at c10_
                have u0_ := (oD.up 2).cell 0
                have u1_ := (oD.up 2).cell 1
                have u2_ := (oD.up 2).cell 2
                have u3_ := (oD.up 2).cell 3
                have u4_ := (oD.up 2).cell 4
                go_simp
                exact hK.out (.agg #[.string YS, .int .i64 y1, .int .i64 y2, .int .i64 y3, .int .i64 y4]) _ ⟨oD, kD, HV.out.put 18 (fun _ h => some_eq h)⟩
              · have c11_ := hA.base 11 (by rfl)
                simp only [List.getElem?_toArray, List.getElem?_cons_zero, List.getElem?_cons_succ, Option.getD_some] at c11_
                have u0_ := (oD.up 1).cell 0
                have u1_ := (oD.up 1).cell 1
                have u2_ := (oD.up 1).cell 2
                have u3_ := (oD.up 1).cell 3
                have u4_ := (oD.up 1).cell 4
                go_simp
                exact hK.out (.agg #[.string HS, .int .i64 h1, .int .i64 h2, .int .i64 h3, .int .i64 h4]) _ ⟨oD, kD, HV.out.put 19 (fun _ h => some_eq h)⟩
              · have h18_ : L 18 = true := by simp [hd]
                have c43_ : ac.tmps[43]?.getD undef = .agg #[.string YS, .int .i64 y1, .int .i64 y2, .int .i64 y3, .int .i64 y4] := (hA.get 18 h18_).trans (HV.out 18 _ rfl h18_)
                have h19_ : L 19 = true := by simp [hd]
                have c44_ : ac.tmps[44]?.getD undef = .agg #[.string HS, .int .i64 h1, .int .i64 h2, .int .i64 h3, .int .i64 h4] := (hA.get 19 h19_).trans (HV.out 19 _ rfl h19_)
                go_simp
                refine (c4.out _ _ (oD.up 0)).mono ?_
                rintro _ w3_ ⟨rfl, o3_, k3_⟩
                exact hK.out (.bool true) _ ⟨o3_.re [0], kD.trans k3_, HV.out.put 20 (fun _ h => some_eq h)⟩
              · have h17_ : L 17 = true := by simp [hd]
                have c42_ : ac.tmps[42]?.getD undef = .bool true := (hA.get 17 h17_).trans (HV.out 17 _ rfl h17_)
                have h20_ : L 20 = true := by simp [hd]
                have c45_ : ac.tmps[45]?.getD undef = .bool true := (hA.get 20 h20_).trans (HV.out 20 _ rfl h20_)
                go_simp
                exact hK.out (.bool true) _ ⟨oD, kD, HV.out.put 21 (fun _ h => some_eq h)⟩
              · have h21_ : L 21 = true := by simp [hd]
                have c46_ : ac.tmps[46]?.getD undef = .bool true := (hA.get 21 h21_).trans (HV.out 21 _ rfl h21_)
                go_simp
                exact hK.out (.bool true) _ ⟨oD, kD, HV.out.put 22 (fun _ h => some_eq h)⟩
              · have c9_ := hA.base 9 (by rfl)
                simp only [List.getElem?_toArray, List.getElem?_cons_zero, List.getElem?_cons_succ, Option.getD_some] at c9_
                have u0_ := (oD.up 3).cell 0
                have u1_ := (oD.up 3).cell 1
                have u2_ := (oD.up 3).cell 2
                have u3_ := (oD.up 3).cell 3
                have u4_ := (oD.up 3).cell 4
                go_simp
                exact hK.out (.agg #[.string XS, .int .i64 x1, .int .i64 x2, .int .i64 x3, .int .i64 x4]) _ ⟨oD, kD, HV.out.put 23 (fun _ h => some_eq h)⟩
              · have c11_ := hA.base 11 (by rfl)
                simp only [List.getElem?_toArray, List.getElem?_cons_zero, List.getElem?_cons_succ, Option.getD_some] at c11_
                have u0_ := (oD.up 1).cell 0
                have u1_ := (oD.up 1).cell 1
                have u2_ := (oD.up 1).cell 2
                have u3_ := (oD.up 1).cell 3
                have u4_ := (oD.up 1).cell 4
                go_simp
                exact hK.out (.agg #[.string HS, .int .i64 h1, .int .i64 h2, .int .i64 h3, .int .i64 h4]) _ ⟨oD, kD, HV.out.put 24 (fun _ h => some_eq h)⟩
              · have h23_ : L 23 = true := by simp [hd]
                have c48_ : ac.tmps[48]?.getD undef = .agg #[.string XS, .int .i64 x1, .int .i64 x2, .int .i64 x3, .int .i64 x4] := (hA.get 23 h23_).trans (HV.out 23 _ rfl h23_)
                have h24_ : L 24 = true := by simp [hd]
                have c49_ : ac.tmps[49]?.getD undef = .agg #[.string HS, .int .i64 h1, .int .i64 h2, .int .i64 h3, .int .i64 h4] := (hA.get 24 h24_).trans (HV.out 24 _ rfl h24_)
                go_simp
                refine (c5.out _ _ (oD.up 0)).mono ?_
                rintro _ w3_ ⟨rfl, o3_, k3_⟩
                exact hK.out (.bool true) _ ⟨o3_.re [0], kD.trans k3_, HV.out.put 25 (fun _ h => some_eq h)⟩
              · have h25_ : L 25 = true := by simp [hd]
                have c50_ : ac.tmps[50]?.getD undef = .bool true := (hA.get 25 h25_).trans (HV.out 25 _ rfl h25_)
                go_simp
                exact hK.out (.bool false) _ ⟨oD, kD, HV.out.put 26 (fun _ h => some_eq h)⟩
              · have h22_ : L 22 = true := by simp [hd]
                have c47_ : ac.tmps[47]?.getD undef = .bool true := (hA.get 22 h22_).trans (HV.out 22 _ rfl h22_)
                have h26_ : L 26 = true := by simp [hd]
                have c51_ : ac.tmps[51]?.getD undef = .bool false := (hA.get 26 h26_).trans (HV.out 26 _ rfl h26_)
                go_simp
                exact hK.out (.bool false) _ ⟨oD, kD, HV.out.put 27 (fun _ h => some_eq h)⟩
              · have h13_ : L 13 = true := by simp [hd]
                have c38_ : ac.tmps[38]?.getD undef = .bool false := (hA.get 13 h13_).trans (HV.out 13 _ rfl h13_)
                have h27_ : L 27 = true := by simp [hd]
                have c52_ : ac.tmps[52]?.getD undef = .bool false := (hA.get 27 h27_).trans (HV.out 27 _ rfl h27_)
                go_simp
                exact hK.out (.bool false) _ ⟨oD, kD, HV.out.put 28 (fun _ h => some_eq h)⟩
            case fin =>
              rintro L v wc hall ⟨oD, kD, hv⟩
              have h28 := hv 28 _ rfl (hall 28 (by decide))
              clear hv hall
              simp only [putAll, Act.put, List.setIfInBounds_toArray, List.set_cons_zero, List.set_cons_succ]
              go_wp2
              go_meet
              first | exact ⟨rfl, oD, kD⟩ | exact ⟨h28, oD, kD⟩
      case rest =>
      obtain ⟨rfl, o6, k6⟩ := hcut
      have o7 := (o6.alloc (.cells #[.string ⟨#[]⟩, .int .i64 (-1), .int .i64 0, .int .i64 65535, .int .i64 0] 24)).up 1
      have x0_ := (o6.up 3).cell 0
      have x1_ := (o6.up 3).cell 1
      have x2_ := (o6.up 3).cell 2
      have x3_ := (o6.up 3).cell 3
      have x4_ := (o6.up 3).cell 4
      have xl_ := Own.celLt (T := 24) (o6.up 3)
      go_wp2_with fail
      refine (c6.out _ _ o7).mono ?_
      rintro e9 w9 ⟨rfl, o9, k9⟩
      have q0 := (o9.up 1).cell 0
      have q1 := (o9.up 1).cell 1
      have q2 := (o9.up 1).cell 2
      have q3 := (o9.up 1).cell 3
      have q4 := (o9.up 1).cell 4
      have r0 := (o9.up 2).cell 0
      have r1 := (o9.up 2).cell 1
      have r2 := (o9.up 2).cell 2
      have r3 := (o9.up 2).cell 3
      have r4 := (o9.up 2).cell 4
      go_wp2_with fail
      refine (c7.out _ _ o9).mono ?_
      rintro e10 w10 ⟨rfl, o10, k10⟩
      go_wp2
      go_roundw
      case rel => exact ⟨i + 1, by go_num, by omega, Ch.upTo (N := 17 * i + 6 + 6 + 5) (M := 17 * (i + 1)) (by omega) (((o10.re [1, 2, 3, 4]).drop.drop.drop.drop).re [1, 0]), k6.trans (Calm.trans (Calm.al k9) k10)⟩
      case measure => simp [viN]; omega
    · have dl : decide (i < 6) = false := decide_eq_false hlt
      clear PC RC PM
      have o5 := oR.re [1, 2, 3, 0]
      go_upto_region 11 with fail
      skip
      have ma : ¬ 60 < AS.size → ast.length ≤ 2000000 := fun h => by omega
      have mb : ¬ 60 < BS.size → bst.length ≤ 2000000 := fun h => by omega
      clear hla hlb
      by_cases ga : 60 < AS.size
      · have ga1 : decide ((60 : Int) < (AS.size : Int)) = true := decide_eq_true (by omega)
        clear pab rab
        refine wp_region_draws (fun L v wc => Own wc (old w :: cel (b4 + 1) 24 [.string BS, .int .i64 bc, .int .i64 bf, .int .i64 bl, .int .i64 bw] :: cel b4 24 [.string AS, .int .i64 aq, .int .i64 af, .int .i64 al, .int .i64 ay] :: Ch w cb (17 * i) :: []) ∧ Calm w wc ∧ OVals (fun i => ([some (.pointer (some ⟨b4, 0, none⟩)), some (.string AS), some (.int .i64 (AS.size : Int)), some (.bool true), some (.bool true), some (undef), some (undef), some (undef), some (undef), some (.bool true), some (.bool true), some (undef), some (undef), some (undef), some (undef), some (undef), some (undef), some (undef), some (undef), some (undef), some (undef), some (.bool true), some (.bool true)] : List (Option Value)).getD i none) L v) (by kernel_rfl) (by kernel_rfl) (by kernel_rfl) ?h0 ?step ?fin
        case h0 => exact ⟨o5.drew, ⟨kR.os, kR.tape, kR.output⟩, OVals.no⟩
        case step =>
          refine ⟨DrawStep.mk rfl ?_, DrawStep.mk rfl ?_, DrawStep.mk rfl ?_, DrawStep.mk rfl ?_, DrawStep.mk rfl ?_, DrawStep.skip rfl rfl (by kernel_rfl) (fun L v w hI hl => hI.2.2 4 _ rfl hl) (fun L v w hL hI => ⟨hI.1, hI.2.1, hI.2.2.put 5 (fun _ h => some_eq h)⟩), DrawStep.skip rfl rfl (by kernel_rfl) (fun L v w hI hl => hI.2.2 4 _ rfl hl) (fun L v w hL hI => ⟨hI.1, hI.2.1, hI.2.2.put 6 (fun _ h => some_eq h)⟩), DrawStep.skip rfl rfl (by kernel_rfl) (fun L v w hI hl => hI.2.2 4 _ rfl hl) (fun L v w hL hI => ⟨hI.1, hI.2.1, hI.2.2.put 7 (fun _ h => some_eq h)⟩), DrawStep.skip rfl rfl (by kernel_rfl) (fun L v w hI hl => hI.2.2 4 _ rfl hl) (fun L v w hL hI => ⟨hI.1, hI.2.1, hI.2.2.put 8 (fun _ h => some_eq h)⟩), DrawStep.mk rfl ?_, DrawStep.mk rfl ?_, DrawStep.skip rfl rfl (by kernel_rfl) (fun L v w hI hl => hI.2.2 10 _ rfl hl) (fun L v w hL hI => ⟨hI.1, hI.2.1, hI.2.2.put 11 (fun _ h => some_eq h)⟩), DrawStep.skip rfl rfl (by kernel_rfl) (fun L v w hI hl => hI.2.2 10 _ rfl hl) (fun L v w hL hI => ⟨hI.1, hI.2.1, hI.2.2.put 12 (fun _ h => some_eq h)⟩), DrawStep.skip rfl rfl (by kernel_rfl) (fun L v w hI hl => hI.2.2 10 _ rfl hl) (fun L v w hL hI => ⟨hI.1, hI.2.1, hI.2.2.put 13 (fun _ h => some_eq h)⟩), DrawStep.skip rfl rfl (by kernel_rfl) (fun L v w hI hl => hI.2.2 10 _ rfl hl) (fun L v w hL hI => ⟨hI.1, hI.2.1, hI.2.2.put 14 (fun _ h => some_eq h)⟩), DrawStep.skip rfl rfl (by kernel_rfl) (fun L v w hI hl => hI.2.2 10 _ rfl hl) (fun L v w hL hI => ⟨hI.1, hI.2.1, hI.2.2.put 15 (fun _ h => some_eq h)⟩), DrawStep.skip rfl rfl (by kernel_rfl) (fun L v w hI hl => hI.2.2 10 _ rfl hl) (fun L v w hL hI => ⟨hI.1, hI.2.1, hI.2.2.put 16 (fun _ h => some_eq h)⟩), DrawStep.skip rfl rfl (by kernel_rfl) (fun L v w hI hl => hI.2.2 10 _ rfl hl) (fun L v w hL hI => ⟨hI.1, hI.2.1, hI.2.2.put 17 (fun _ h => some_eq h)⟩), DrawStep.skip rfl rfl (by kernel_rfl) (fun L v w hI hl => hI.2.2 10 _ rfl hl) (fun L v w hL hI => ⟨hI.1, hI.2.1, hI.2.2.put 18 (fun _ h => some_eq h)⟩), DrawStep.skipU rfl rfl (by kernel_rfl) (fun L v w hI hl => hI.2.2 18 _ rfl hl) (fun L v w hL hI => ⟨hI.1, hI.2.1, hI.2.2.put 19 (fun _ h => some_eq h)⟩), DrawStep.skip rfl rfl (by kernel_rfl) (fun L v w hI hl => hI.2.2 10 _ rfl hl) (fun L v w hL hI => ⟨hI.1, hI.2.1, hI.2.2.put 20 (fun _ h => some_eq h)⟩), DrawStep.mk rfl ?_, DrawStep.mk rfl ?_, trivial⟩
          all_goals intro L v ac wc hL hd hA hI K' hK
          all_goals obtain ⟨oD, kD, hv⟩ := hI
          all_goals simp [Region.binds] at hd
          all_goals have HV := Lib.hid hv
          all_goals clear hv
          · have c4_ := hA.base 4 (by rfl)
            simp only [List.getElem?_toArray, List.getElem?_cons_zero, List.getElem?_cons_succ, Option.getD_some] at c4_
            go_simp
            exact hK.out (.pointer (some ⟨b4, 0, none⟩)) _ ⟨oD, kD, HV.out.put 0 (fun _ h => some_eq h)⟩
          · have h0_ : L 0 = true := by simp [hd]
            have c65_ : ac.tmps[65]?.getD undef = .pointer (some ⟨b4, 0, none⟩) := (hA.get 0 h0_).trans (HV.out 0 _ rfl h0_)
            have u0_ := (oD.up 2).cell 0
            have u1_ := (oD.up 2).cell 1
            have u2_ := (oD.up 2).cell 2
            have u3_ := (oD.up 2).cell 3
            have u4_ := (oD.up 2).cell 4
            go_simp
            exact hK.out (.string AS) _ ⟨oD, kD, HV.out.put 1 (fun _ h => some_eq h)⟩
          · have h1_ : L 1 = true := by simp [hd]
            have c66_ : ac.tmps[66]?.getD undef = .string AS := (hA.get 1 h1_).trans (HV.out 1 _ rfl h1_)
            go_simp
            exact hK.out (.int .i64 (AS.size : Int)) _ ⟨oD, kD, HV.out.put 2 (fun _ h => some_eq h)⟩
          · have h2_ : L 2 = true := by simp [hd]
            have c67_ : ac.tmps[67]?.getD undef = .int .i64 (AS.size : Int) := (hA.get 2 h2_).trans (HV.out 2 _ rfl h2_)
            go_simp
            try simp only [ga1]
            try simp only [gb1]
            exact hK.out (.bool true) _ ⟨oD, kD, HV.out.put 3 (fun _ h => some_eq h)⟩
          · have h3_ : L 3 = true := by simp [hd]
            have c68_ : ac.tmps[68]?.getD undef = .bool true := (hA.get 3 h3_).trans (HV.out 3 _ rfl h3_)
            go_simp
            exact hK.out (.bool true) _ ⟨oD, kD, HV.out.put 4 (fun _ h => some_eq h)⟩
          · have h4_ : L 4 = true := by simp [hd]
            have c69_ : ac.tmps[69]?.getD undef = .bool true := (hA.get 4 h4_).trans (HV.out 4 _ rfl h4_)
            have h8_ : L 8 = true := by simp [hd]
            have c73_ : ac.tmps[73]?.getD undef = undef := (hA.get 8 h8_).trans (HV.out 8 _ rfl h8_)
            go_simp
            exact hK.out (.bool true) _ ⟨oD, kD, HV.out.put 9 (fun _ h => some_eq h)⟩
          · have h9_ : L 9 = true := by simp [hd]
            have c74_ : ac.tmps[74]?.getD undef = .bool true := (hA.get 9 h9_).trans (HV.out 9 _ rfl h9_)
            go_simp
            exact hK.out (.bool true) _ ⟨oD, kD, HV.out.put 10 (fun _ h => some_eq h)⟩
          · have h10_ : L 10 = true := by simp [hd]
            have c75_ : ac.tmps[75]?.getD undef = .bool true := (hA.get 10 h10_).trans (HV.out 10 _ rfl h10_)
            have h20_ : L 20 = true := by simp [hd]
            have c85_ : ac.tmps[85]?.getD undef = undef := (hA.get 20 h20_).trans (HV.out 20 _ rfl h20_)
            go_simp
            exact hK.out (.bool true) _ ⟨oD, kD, HV.out.put 21 (fun _ h => some_eq h)⟩
          · have h21_ : L 21 = true := by simp [hd]
            have c86_ : ac.tmps[86]?.getD undef = .bool true := (hA.get 21 h21_).trans (HV.out 21 _ rfl h21_)
            go_simp
            exact hK.out (.bool true) _ ⟨oD, kD, HV.out.put 22 (fun _ h => some_eq h)⟩
        case fin =>
          rintro L v wc hall ⟨oD, kD, hv⟩
          have h22 := hv 22 _ rfl (hall 22 (by decide))
          clear hv hall
          simp only [putAll, Act.put, List.setIfInBounds_toArray, List.set_cons_zero, List.set_cons_succ]
          go_wp2
          go_ret
          exact ⟨by first | rfl | exact congrArg _ h22, (oD.up 0).below kD⟩
      have ga1 : decide ((60 : Int) < (AS.size : Int)) = false := decide_eq_false (by omega)
      by_cases gb : 60 < BS.size
      · have gb1 : decide ((60 : Int) < (BS.size : Int)) = true := decide_eq_true (by omega)
        clear pab rab
        refine wp_region_draws (fun L v wc => Own wc (old w :: cel (b4 + 1) 24 [.string BS, .int .i64 bc, .int .i64 bf, .int .i64 bl, .int .i64 bw] :: cel b4 24 [.string AS, .int .i64 aq, .int .i64 af, .int .i64 al, .int .i64 ay] :: Ch w cb (17 * i) :: []) ∧ Calm w wc ∧ OVals (fun i => ([some (.pointer (some ⟨b4, 0, none⟩)), some (.string AS), some (.int .i64 (AS.size : Int)), some (.bool false), some (.bool false), some (.pointer (some ⟨(b4 + 1), 0, none⟩)), some (.string BS), some (.int .i64 (BS.size : Int)), some (.bool true), some (.bool true), some (.bool true), some (undef), some (undef), some (undef), some (undef), some (undef), some (undef), some (undef), some (undef), some (undef), some (undef), some (.bool true), some (.bool true)] : List (Option Value)).getD i none) L v) (by kernel_rfl) (by kernel_rfl) (by kernel_rfl) ?h0 ?step ?fin
        case h0 => exact ⟨o5.drew, ⟨kR.os, kR.tape, kR.output⟩, OVals.no⟩
        case step =>
          refine ⟨DrawStep.mk rfl ?_, DrawStep.mk rfl ?_, DrawStep.mk rfl ?_, DrawStep.mk rfl ?_, DrawStep.mk rfl ?_, DrawStep.run rfl rfl (by kernel_rfl) (fun L v w hI hl => hI.2.2 4 _ rfl hl) ?_, DrawStep.run rfl rfl (by kernel_rfl) (fun L v w hI hl => hI.2.2 4 _ rfl hl) ?_, DrawStep.run rfl rfl (by kernel_rfl) (fun L v w hI hl => hI.2.2 4 _ rfl hl) ?_, DrawStep.run rfl rfl (by kernel_rfl) (fun L v w hI hl => hI.2.2 4 _ rfl hl) ?_, DrawStep.mk rfl ?_, DrawStep.mk rfl ?_, DrawStep.skip rfl rfl (by kernel_rfl) (fun L v w hI hl => hI.2.2 10 _ rfl hl) (fun L v w hL hI => ⟨hI.1, hI.2.1, hI.2.2.put 11 (fun _ h => some_eq h)⟩), DrawStep.skip rfl rfl (by kernel_rfl) (fun L v w hI hl => hI.2.2 10 _ rfl hl) (fun L v w hL hI => ⟨hI.1, hI.2.1, hI.2.2.put 12 (fun _ h => some_eq h)⟩), DrawStep.skip rfl rfl (by kernel_rfl) (fun L v w hI hl => hI.2.2 10 _ rfl hl) (fun L v w hL hI => ⟨hI.1, hI.2.1, hI.2.2.put 13 (fun _ h => some_eq h)⟩), DrawStep.skip rfl rfl (by kernel_rfl) (fun L v w hI hl => hI.2.2 10 _ rfl hl) (fun L v w hL hI => ⟨hI.1, hI.2.1, hI.2.2.put 14 (fun _ h => some_eq h)⟩), DrawStep.skip rfl rfl (by kernel_rfl) (fun L v w hI hl => hI.2.2 10 _ rfl hl) (fun L v w hL hI => ⟨hI.1, hI.2.1, hI.2.2.put 15 (fun _ h => some_eq h)⟩), DrawStep.skip rfl rfl (by kernel_rfl) (fun L v w hI hl => hI.2.2 10 _ rfl hl) (fun L v w hL hI => ⟨hI.1, hI.2.1, hI.2.2.put 16 (fun _ h => some_eq h)⟩), DrawStep.skip rfl rfl (by kernel_rfl) (fun L v w hI hl => hI.2.2 10 _ rfl hl) (fun L v w hL hI => ⟨hI.1, hI.2.1, hI.2.2.put 17 (fun _ h => some_eq h)⟩), DrawStep.skip rfl rfl (by kernel_rfl) (fun L v w hI hl => hI.2.2 10 _ rfl hl) (fun L v w hL hI => ⟨hI.1, hI.2.1, hI.2.2.put 18 (fun _ h => some_eq h)⟩), DrawStep.skipU rfl rfl (by kernel_rfl) (fun L v w hI hl => hI.2.2 18 _ rfl hl) (fun L v w hL hI => ⟨hI.1, hI.2.1, hI.2.2.put 19 (fun _ h => some_eq h)⟩), DrawStep.skip rfl rfl (by kernel_rfl) (fun L v w hI hl => hI.2.2 10 _ rfl hl) (fun L v w hL hI => ⟨hI.1, hI.2.1, hI.2.2.put 20 (fun _ h => some_eq h)⟩), DrawStep.mk rfl ?_, DrawStep.mk rfl ?_, trivial⟩
          all_goals intro L v ac wc hL hd hA hI K' hK
          all_goals obtain ⟨oD, kD, hv⟩ := hI
          all_goals simp [Region.binds] at hd
          all_goals have HV := Lib.hid hv
          all_goals clear hv
          · have c4_ := hA.base 4 (by rfl)
            simp only [List.getElem?_toArray, List.getElem?_cons_zero, List.getElem?_cons_succ, Option.getD_some] at c4_
            go_simp
            exact hK.out (.pointer (some ⟨b4, 0, none⟩)) _ ⟨oD, kD, HV.out.put 0 (fun _ h => some_eq h)⟩
          · have h0_ : L 0 = true := by simp [hd]
            have c65_ : ac.tmps[65]?.getD undef = .pointer (some ⟨b4, 0, none⟩) := (hA.get 0 h0_).trans (HV.out 0 _ rfl h0_)
            have u0_ := (oD.up 2).cell 0
            have u1_ := (oD.up 2).cell 1
            have u2_ := (oD.up 2).cell 2
            have u3_ := (oD.up 2).cell 3
            have u4_ := (oD.up 2).cell 4
            go_simp
            exact hK.out (.string AS) _ ⟨oD, kD, HV.out.put 1 (fun _ h => some_eq h)⟩
          · have h1_ : L 1 = true := by simp [hd]
            have c66_ : ac.tmps[66]?.getD undef = .string AS := (hA.get 1 h1_).trans (HV.out 1 _ rfl h1_)
            go_simp
            exact hK.out (.int .i64 (AS.size : Int)) _ ⟨oD, kD, HV.out.put 2 (fun _ h => some_eq h)⟩
          · have h2_ : L 2 = true := by simp [hd]
            have c67_ : ac.tmps[67]?.getD undef = .int .i64 (AS.size : Int) := (hA.get 2 h2_).trans (HV.out 2 _ rfl h2_)
            go_simp
            try simp only [ga1]
            try simp only [gb1]
            exact hK.out (.bool false) _ ⟨oD, kD, HV.out.put 3 (fun _ h => some_eq h)⟩
          · have h3_ : L 3 = true := by simp [hd]
            have c68_ : ac.tmps[68]?.getD undef = .bool false := (hA.get 3 h3_).trans (HV.out 3 _ rfl h3_)
            go_simp
            exact hK.out (.bool false) _ ⟨oD, kD, HV.out.put 4 (fun _ h => some_eq h)⟩
          · have c5_ := hA.base 5 (by rfl)
            simp only [List.getElem?_toArray, List.getElem?_cons_zero, List.getElem?_cons_succ, Option.getD_some] at c5_
            go_simp
            exact hK.out (.pointer (some ⟨(b4 + 1), 0, none⟩)) _ ⟨oD, kD, HV.out.put 5 (fun _ h => some_eq h)⟩
          · have h5_ : L 5 = true := by simp [hd]
            have c70_ : ac.tmps[70]?.getD undef = .pointer (some ⟨(b4 + 1), 0, none⟩) := (hA.get 5 h5_).trans (HV.out 5 _ rfl h5_)
            have u0_ := (oD.up 1).cell 0
            have u1_ := (oD.up 1).cell 1
            have u2_ := (oD.up 1).cell 2
            have u3_ := (oD.up 1).cell 3
            have u4_ := (oD.up 1).cell 4
            go_simp
            exact hK.out (.string BS) _ ⟨oD, kD, HV.out.put 6 (fun _ h => some_eq h)⟩
          · have h6_ : L 6 = true := by simp [hd]
            have c71_ : ac.tmps[71]?.getD undef = .string BS := (hA.get 6 h6_).trans (HV.out 6 _ rfl h6_)
            go_simp
            exact hK.out (.int .i64 (BS.size : Int)) _ ⟨oD, kD, HV.out.put 7 (fun _ h => some_eq h)⟩
          · have h7_ : L 7 = true := by simp [hd]
            have c72_ : ac.tmps[72]?.getD undef = .int .i64 (BS.size : Int) := (hA.get 7 h7_).trans (HV.out 7 _ rfl h7_)
            go_simp
            try simp only [ga1]
            try simp only [gb1]
            exact hK.out (.bool true) _ ⟨oD, kD, HV.out.put 8 (fun _ h => some_eq h)⟩
          · have h4_ : L 4 = true := by simp [hd]
            have c69_ : ac.tmps[69]?.getD undef = .bool false := (hA.get 4 h4_).trans (HV.out 4 _ rfl h4_)
            have h8_ : L 8 = true := by simp [hd]
            have c73_ : ac.tmps[73]?.getD undef = .bool true := (hA.get 8 h8_).trans (HV.out 8 _ rfl h8_)
            go_simp
            exact hK.out (.bool true) _ ⟨oD, kD, HV.out.put 9 (fun _ h => some_eq h)⟩
          · have h9_ : L 9 = true := by simp [hd]
            have c74_ : ac.tmps[74]?.getD undef = .bool true := (hA.get 9 h9_).trans (HV.out 9 _ rfl h9_)
            go_simp
            exact hK.out (.bool true) _ ⟨oD, kD, HV.out.put 10 (fun _ h => some_eq h)⟩
          · have h10_ : L 10 = true := by simp [hd]
            have c75_ : ac.tmps[75]?.getD undef = .bool true := (hA.get 10 h10_).trans (HV.out 10 _ rfl h10_)
            have h20_ : L 20 = true := by simp [hd]
            have c85_ : ac.tmps[85]?.getD undef = undef := (hA.get 20 h20_).trans (HV.out 20 _ rfl h20_)
            go_simp
            exact hK.out (.bool true) _ ⟨oD, kD, HV.out.put 21 (fun _ h => some_eq h)⟩
          · have h21_ : L 21 = true := by simp [hd]
            have c86_ : ac.tmps[86]?.getD undef = .bool true := (hA.get 21 h21_).trans (HV.out 21 _ rfl h21_)
            go_simp
            exact hK.out (.bool true) _ ⟨oD, kD, HV.out.put 22 (fun _ h => some_eq h)⟩
        case fin =>
          rintro L v wc hall ⟨oD, kD, hv⟩
          have h22 := hv 22 _ rfl (hall 22 (by decide))
          clear hv hall
          simp only [putAll, Act.put, List.setIfInBounds_toArray, List.set_cons_zero, List.set_cons_succ]
          go_wp2
          go_ret
          exact ⟨by first | rfl | exact congrArg _ h22, (oD.up 0).below kD⟩
      have gb1 : decide ((60 : Int) < (BS.size : Int)) = false := decide_eq_false (by omega)
      have qa := Lib.hid (pab.out (ma ga) (mb gb))
      have qb := Lib.hid (rab.out (ma ga) (mb gb))
      clear pab rab ma mb
      cases zab with
      | false =>
        refine wp_region_draws (fun L v wc => Own wc (old w :: cel (b4 + 1) 24 [.string BS, .int .i64 bc, .int .i64 bf, .int .i64 bl, .int .i64 bw] :: cel b4 24 [.string AS, .int .i64 aq, .int .i64 af, .int .i64 al, .int .i64 ay] :: Ch w cb (17 * i) :: []) ∧ Calm w wc ∧ OVals (fun i => ([some (.pointer (some ⟨b4, 0, none⟩)), some (.string AS), some (.int .i64 (AS.size : Int)), some (.bool false), some (.bool false), some (.pointer (some ⟨(b4 + 1), 0, none⟩)), some (.string BS), some (.int .i64 (BS.size : Int)), some (.bool false), some (.bool false), some (.bool false), some (.agg #[.string AS, .int .i64 aq, .int .i64 af, .int .i64 al, .int .i64 ay]), some (.agg #[.string BS, .int .i64 bc, .int .i64 bf, .int .i64 bl, .int .i64 bw]), some (.bool false), some (.agg #[.string AS, .int .i64 aq, .int .i64 af, .int .i64 al, .int .i64 ay]), some (.agg #[.string BS, .int .i64 bc, .int .i64 bf, .int .i64 bl, .int .i64 bw]), some (.bool false), some (.bool true), some (.bool true), some (.bool true), some (.bool true), some (.bool true), some (.bool true)] : List (Option Value)).getD i none) L v) (by kernel_rfl) (by kernel_rfl) (by kernel_rfl) ?h0 ?step ?fin
        case h0 => exact ⟨o5.drew, ⟨kR.os, kR.tape, kR.output⟩, OVals.no⟩
        case step =>
          refine ⟨DrawStep.mk rfl ?_, DrawStep.mk rfl ?_, DrawStep.mk rfl ?_, DrawStep.mk rfl ?_, DrawStep.mk rfl ?_, DrawStep.run rfl rfl (by kernel_rfl) (fun L v w hI hl => hI.2.2 4 _ rfl hl) ?_, DrawStep.run rfl rfl (by kernel_rfl) (fun L v w hI hl => hI.2.2 4 _ rfl hl) ?_, DrawStep.run rfl rfl (by kernel_rfl) (fun L v w hI hl => hI.2.2 4 _ rfl hl) ?_, DrawStep.run rfl rfl (by kernel_rfl) (fun L v w hI hl => hI.2.2 4 _ rfl hl) ?_, DrawStep.mk rfl ?_, DrawStep.mk rfl ?_, DrawStep.run rfl rfl (by kernel_rfl) (fun L v w hI hl => hI.2.2 10 _ rfl hl) ?_, DrawStep.run rfl rfl (by kernel_rfl) (fun L v w hI hl => hI.2.2 10 _ rfl hl) ?_, DrawStep.run rfl rfl (by kernel_rfl) (fun L v w hI hl => hI.2.2 10 _ rfl hl) ?_, DrawStep.run rfl rfl (by kernel_rfl) (fun L v w hI hl => hI.2.2 10 _ rfl hl) ?_, DrawStep.run rfl rfl (by kernel_rfl) (fun L v w hI hl => hI.2.2 10 _ rfl hl) ?_, DrawStep.run rfl rfl (by kernel_rfl) (fun L v w hI hl => hI.2.2 10 _ rfl hl) ?_, DrawStep.run rfl rfl (by kernel_rfl) (fun L v w hI hl => hI.2.2 10 _ rfl hl) ?_, DrawStep.run rfl rfl (by kernel_rfl) (fun L v w hI hl => hI.2.2 10 _ rfl hl) ?_, DrawStep.run rfl rfl (by kernel_rfl) (fun L v w hI hl => hI.2.2 18 _ rfl hl) ?_, DrawStep.run rfl rfl (by kernel_rfl) (fun L v w hI hl => hI.2.2 10 _ rfl hl) ?_, DrawStep.mk rfl ?_, DrawStep.mk rfl ?_, trivial⟩
          all_goals intro L v ac wc hL hd hA hI K' hK
          all_goals obtain ⟨oD, kD, hv⟩ := hI
          all_goals simp [Region.binds] at hd
          all_goals have HV := Lib.hid hv
          all_goals clear hv
          · have c4_ := hA.base 4 (by rfl)
            simp only [List.getElem?_toArray, List.getElem?_cons_zero, List.getElem?_cons_succ, Option.getD_some] at c4_
            go_simp
            exact hK.out (.pointer (some ⟨b4, 0, none⟩)) _ ⟨oD, kD, HV.out.put 0 (fun _ h => some_eq h)⟩
          · have h0_ : L 0 = true := by simp [hd]
            have c65_ : ac.tmps[65]?.getD undef = .pointer (some ⟨b4, 0, none⟩) := (hA.get 0 h0_).trans (HV.out 0 _ rfl h0_)
            have u0_ := (oD.up 2).cell 0
            have u1_ := (oD.up 2).cell 1
            have u2_ := (oD.up 2).cell 2
            have u3_ := (oD.up 2).cell 3
            have u4_ := (oD.up 2).cell 4
            go_simp
            exact hK.out (.string AS) _ ⟨oD, kD, HV.out.put 1 (fun _ h => some_eq h)⟩
          · have h1_ : L 1 = true := by simp [hd]
            have c66_ : ac.tmps[66]?.getD undef = .string AS := (hA.get 1 h1_).trans (HV.out 1 _ rfl h1_)
            go_simp
            exact hK.out (.int .i64 (AS.size : Int)) _ ⟨oD, kD, HV.out.put 2 (fun _ h => some_eq h)⟩
          · have h2_ : L 2 = true := by simp [hd]
            have c67_ : ac.tmps[67]?.getD undef = .int .i64 (AS.size : Int) := (hA.get 2 h2_).trans (HV.out 2 _ rfl h2_)
            go_simp
            try simp only [ga1]
            try simp only [gb1]
            exact hK.out (.bool false) _ ⟨oD, kD, HV.out.put 3 (fun _ h => some_eq h)⟩
          · have h3_ : L 3 = true := by simp [hd]
            have c68_ : ac.tmps[68]?.getD undef = .bool false := (hA.get 3 h3_).trans (HV.out 3 _ rfl h3_)
            go_simp
            exact hK.out (.bool false) _ ⟨oD, kD, HV.out.put 4 (fun _ h => some_eq h)⟩
          · have c5_ := hA.base 5 (by rfl)
            simp only [List.getElem?_toArray, List.getElem?_cons_zero, List.getElem?_cons_succ, Option.getD_some] at c5_
            go_simp
            exact hK.out (.pointer (some ⟨(b4 + 1), 0, none⟩)) _ ⟨oD, kD, HV.out.put 5 (fun _ h => some_eq h)⟩
          · have h5_ : L 5 = true := by simp [hd]
            have c70_ : ac.tmps[70]?.getD undef = .pointer (some ⟨(b4 + 1), 0, none⟩) := (hA.get 5 h5_).trans (HV.out 5 _ rfl h5_)
            have u0_ := (oD.up 1).cell 0
            have u1_ := (oD.up 1).cell 1
            have u2_ := (oD.up 1).cell 2
            have u3_ := (oD.up 1).cell 3
            have u4_ := (oD.up 1).cell 4
            go_simp
            exact hK.out (.string BS) _ ⟨oD, kD, HV.out.put 6 (fun _ h => some_eq h)⟩
          · have h6_ : L 6 = true := by simp [hd]
            have c71_ : ac.tmps[71]?.getD undef = .string BS := (hA.get 6 h6_).trans (HV.out 6 _ rfl h6_)
            go_simp
            exact hK.out (.int .i64 (BS.size : Int)) _ ⟨oD, kD, HV.out.put 7 (fun _ h => some_eq h)⟩
          · have h7_ : L 7 = true := by simp [hd]
            have c72_ : ac.tmps[72]?.getD undef = .int .i64 (BS.size : Int) := (hA.get 7 h7_).trans (HV.out 7 _ rfl h7_)
            go_simp
            try simp only [ga1]
            try simp only [gb1]
            exact hK.out (.bool false) _ ⟨oD, kD, HV.out.put 8 (fun _ h => some_eq h)⟩
          · have h4_ : L 4 = true := by simp [hd]
            have c69_ : ac.tmps[69]?.getD undef = .bool false := (hA.get 4 h4_).trans (HV.out 4 _ rfl h4_)
            have h8_ : L 8 = true := by simp [hd]
            have c73_ : ac.tmps[73]?.getD undef = .bool false := (hA.get 8 h8_).trans (HV.out 8 _ rfl h8_)
            go_simp
            exact hK.out (.bool false) _ ⟨oD, kD, HV.out.put 9 (fun _ h => some_eq h)⟩
          · have h9_ : L 9 = true := by simp [hd]
            have c74_ : ac.tmps[74]?.getD undef = .bool false := (hA.get 9 h9_).trans (HV.out 9 _ rfl h9_)
            go_simp
            exact hK.out (.bool false) _ ⟨oD, kD, HV.out.put 10 (fun _ h => some_eq h)⟩
          · have c4_ := hA.base 4 (by rfl)
            simp only [List.getElem?_toArray, List.getElem?_cons_zero, List.getElem?_cons_succ, Option.getD_some] at c4_
            have u0_ := (oD.up 2).cell 0
            have u1_ := (oD.up 2).cell 1
            have u2_ := (oD.up 2).cell 2
            have u3_ := (oD.up 2).cell 3
            have u4_ := (oD.up 2).cell 4
            go_simp
            exact hK.out (.agg #[.string AS, .int .i64 aq, .int .i64 af, .int .i64 al, .int .i64 ay]) _ ⟨oD, kD, HV.out.put 11 (fun _ h => some_eq h)⟩
          · have c5_ := hA.base 5 (by rfl)
            simp only [List.getElem?_toArray, List.getElem?_cons_zero, List.getElem?_cons_succ, Option.getD_some] at c5_
            have u0_ := (oD.up 1).cell 0
            have u1_ := (oD.up 1).cell 1
            have u2_ := (oD.up 1).cell 2
            have u3_ := (oD.up 1).cell 3
            have u4_ := (oD.up 1).cell 4
            go_simp
            exact hK.out (.agg #[.string BS, .int .i64 bc, .int .i64 bf, .int .i64 bl, .int .i64 bw]) _ ⟨oD, kD, HV.out.put 12 (fun _ h => some_eq h)⟩
          · have h11_ : L 11 = true := by simp [hd]
            have c76_ : ac.tmps[76]?.getD undef = .agg #[.string AS, .int .i64 aq, .int .i64 af, .int .i64 al, .int .i64 ay] := (hA.get 11 h11_).trans (HV.out 11 _ rfl h11_)
            have h12_ : L 12 = true := by simp [hd]
            have c77_ : ac.tmps[77]?.getD undef = .agg #[.string BS, .int .i64 bc, .int .i64 bf, .int .i64 bl, .int .i64 bw] := (hA.get 12 h12_).trans (HV.out 12 _ rfl h12_)
            go_simp
            refine (qa.out _ _ (oD.up 0)).mono ?_
            rintro _ w3_ ⟨rfl, o3_, k3_⟩
            exact hK.out (.bool false) _ ⟨o3_.re [0], kD.trans k3_, HV.out.put 13 (fun _ h => some_eq h)⟩
          · have c4_ := hA.base 4 (by rfl)
            simp only [List.getElem?_toArray, List.getElem?_cons_zero, List.getElem?_cons_succ, Option.getD_some] at c4_
            have u0_ := (oD.up 2).cell 0
            have u1_ := (oD.up 2).cell 1
            have u2_ := (oD.up 2).cell 2
            have u3_ := (oD.up 2).cell 3
            have u4_ := (oD.up 2).cell 4
            go_simp
            exact hK.out (.agg #[.string AS, .int .i64 aq, .int .i64 af, .int .i64 al, .int .i64 ay]) _ ⟨oD, kD, HV.out.put 14 (fun _ h => some_eq h)⟩
          · have c5_ := hA.base 5 (by rfl)
            simp only [List.getElem?_toArray, List.getElem?_cons_zero, List.getElem?_cons_succ, Option.getD_some] at c5_
            have u0_ := (oD.up 1).cell 0
            have u1_ := (oD.up 1).cell 1
            have u2_ := (oD.up 1).cell 2
            have u3_ := (oD.up 1).cell 3
            have u4_ := (oD.up 1).cell 4
            go_simp
            exact hK.out (.agg #[.string BS, .int .i64 bc, .int .i64 bf, .int .i64 bl, .int .i64 bw]) _ ⟨oD, kD, HV.out.put 15 (fun _ h => some_eq h)⟩
          · have h14_ : L 14 = true := by simp [hd]
            have c79_ : ac.tmps[79]?.getD undef = .agg #[.string AS, .int .i64 aq, .int .i64 af, .int .i64 al, .int .i64 ay] := (hA.get 14 h14_).trans (HV.out 14 _ rfl h14_)
            have h15_ : L 15 = true := by simp [hd]
            have c80_ : ac.tmps[80]?.getD undef = .agg #[.string BS, .int .i64 bc, .int .i64 bf, .int .i64 bl, .int .i64 bw] := (hA.get 15 h15_).trans (HV.out 15 _ rfl h15_)
            go_simp
            refine (qb.out _ _ (oD.up 0)).mono ?_
            rintro _ w3_ ⟨rfl, o3_, k3_⟩
            exact hK.out (.bool false) _ ⟨o3_.re [0], kD.trans k3_, HV.out.put 16 (fun _ h => some_eq h)⟩
          · have h13_ : L 13 = true := by simp [hd]
            have c78_ : ac.tmps[78]?.getD undef = .bool false := (hA.get 13 h13_).trans (HV.out 13 _ rfl h13_)
            have h16_ : L 16 = true := by simp [hd]
            have c81_ : ac.tmps[81]?.getD undef = .bool false := (hA.get 16 h16_).trans (HV.out 16 _ rfl h16_)
            go_simp
            exact hK.out (.bool true) _ ⟨oD, kD, HV.out.put 17 (fun _ h => some_eq h)⟩
          · have h17_ : L 17 = true := by simp [hd]
            have c82_ : ac.tmps[82]?.getD undef = .bool true := (hA.get 17 h17_).trans (HV.out 17 _ rfl h17_)
            go_simp
            exact hK.out (.bool true) _ ⟨oD, kD, HV.out.put 18 (fun _ h => some_eq h)⟩
          · go_simp
            refine (HA.out _ _ (oD.up 0)).mono ?_
            rintro _ w3_ ⟨rfl, o3_, k3_⟩
            exact hK.out (.bool true) _ ⟨o3_.re [0], kD.trans k3_, HV.out.put 19 (fun _ h => some_eq h)⟩
          · have h18_ : L 18 = true := by simp [hd]
            have c83_ : ac.tmps[83]?.getD undef = .bool true := (hA.get 18 h18_).trans (HV.out 18 _ rfl h18_)
            have h19_ : L 19 = true := by simp [hd]
            have c84_ : ac.tmps[84]?.getD undef = .bool true := (hA.get 19 h19_).trans (HV.out 19 _ rfl h19_)
            go_simp
            exact hK.out (.bool true) _ ⟨oD, kD, HV.out.put 20 (fun _ h => some_eq h)⟩
          · have h10_ : L 10 = true := by simp [hd]
            have c75_ : ac.tmps[75]?.getD undef = .bool false := (hA.get 10 h10_).trans (HV.out 10 _ rfl h10_)
            have h20_ : L 20 = true := by simp [hd]
            have c85_ : ac.tmps[85]?.getD undef = .bool true := (hA.get 20 h20_).trans (HV.out 20 _ rfl h20_)
            go_simp
            exact hK.out (.bool true) _ ⟨oD, kD, HV.out.put 21 (fun _ h => some_eq h)⟩
          · have h21_ : L 21 = true := by simp [hd]
            have c86_ : ac.tmps[86]?.getD undef = .bool true := (hA.get 21 h21_).trans (HV.out 21 _ rfl h21_)
            go_simp
            exact hK.out (.bool true) _ ⟨oD, kD, HV.out.put 22 (fun _ h => some_eq h)⟩
        case fin =>
          rintro L v wc hall ⟨oD, kD, hv⟩
          have h22 := hv 22 _ rfl (hall 22 (by decide))
          clear hv hall
          simp only [putAll, Act.put, List.setIfInBounds_toArray, List.set_cons_zero, List.set_cons_succ]
          go_wp2
          go_ret
          exact ⟨by first | rfl | exact congrArg _ h22, (oD.up 0).below kD⟩
      | true =>
        refine wp_region_draws (fun L v wc => Own wc (old w :: cel (b4 + 1) 24 [.string BS, .int .i64 bc, .int .i64 bf, .int .i64 bl, .int .i64 bw] :: cel b4 24 [.string AS, .int .i64 aq, .int .i64 af, .int .i64 al, .int .i64 ay] :: Ch w cb (17 * i) :: []) ∧ Calm w wc ∧ OVals (fun i => ([some (.pointer (some ⟨b4, 0, none⟩)), some (.string AS), some (.int .i64 (AS.size : Int)), some (.bool false), some (.bool false), some (.pointer (some ⟨(b4 + 1), 0, none⟩)), some (.string BS), some (.int .i64 (BS.size : Int)), some (.bool false), some (.bool false), some (.bool false), some (.agg #[.string AS, .int .i64 aq, .int .i64 af, .int .i64 al, .int .i64 ay]), some (.agg #[.string BS, .int .i64 bc, .int .i64 bf, .int .i64 bl, .int .i64 bw]), some (.bool true), some (.agg #[.string AS, .int .i64 aq, .int .i64 af, .int .i64 al, .int .i64 ay]), some (.agg #[.string BS, .int .i64 bc, .int .i64 bf, .int .i64 bl, .int .i64 bw]), some (.bool true), some (.bool true), some (.bool true), some (.bool true), some (.bool true), some (.bool true), some (.bool true)] : List (Option Value)).getD i none) L v) (by kernel_rfl) (by kernel_rfl) (by kernel_rfl) ?h0 ?step ?fin
        case h0 => exact ⟨o5.drew, ⟨kR.os, kR.tape, kR.output⟩, OVals.no⟩
        case step =>
          refine ⟨DrawStep.mk rfl ?_, DrawStep.mk rfl ?_, DrawStep.mk rfl ?_, DrawStep.mk rfl ?_, DrawStep.mk rfl ?_, DrawStep.run rfl rfl (by kernel_rfl) (fun L v w hI hl => hI.2.2 4 _ rfl hl) ?_, DrawStep.run rfl rfl (by kernel_rfl) (fun L v w hI hl => hI.2.2 4 _ rfl hl) ?_, DrawStep.run rfl rfl (by kernel_rfl) (fun L v w hI hl => hI.2.2 4 _ rfl hl) ?_, DrawStep.run rfl rfl (by kernel_rfl) (fun L v w hI hl => hI.2.2 4 _ rfl hl) ?_, DrawStep.mk rfl ?_, DrawStep.mk rfl ?_, DrawStep.run rfl rfl (by kernel_rfl) (fun L v w hI hl => hI.2.2 10 _ rfl hl) ?_, DrawStep.run rfl rfl (by kernel_rfl) (fun L v w hI hl => hI.2.2 10 _ rfl hl) ?_, DrawStep.run rfl rfl (by kernel_rfl) (fun L v w hI hl => hI.2.2 10 _ rfl hl) ?_, DrawStep.run rfl rfl (by kernel_rfl) (fun L v w hI hl => hI.2.2 10 _ rfl hl) ?_, DrawStep.run rfl rfl (by kernel_rfl) (fun L v w hI hl => hI.2.2 10 _ rfl hl) ?_, DrawStep.run rfl rfl (by kernel_rfl) (fun L v w hI hl => hI.2.2 10 _ rfl hl) ?_, DrawStep.run rfl rfl (by kernel_rfl) (fun L v w hI hl => hI.2.2 10 _ rfl hl) ?_, DrawStep.run rfl rfl (by kernel_rfl) (fun L v w hI hl => hI.2.2 10 _ rfl hl) ?_, DrawStep.run rfl rfl (by kernel_rfl) (fun L v w hI hl => hI.2.2 18 _ rfl hl) ?_, DrawStep.run rfl rfl (by kernel_rfl) (fun L v w hI hl => hI.2.2 10 _ rfl hl) ?_, DrawStep.mk rfl ?_, DrawStep.mk rfl ?_, trivial⟩
          all_goals intro L v ac wc hL hd hA hI K' hK
          all_goals obtain ⟨oD, kD, hv⟩ := hI
          all_goals simp [Region.binds] at hd
          all_goals have HV := Lib.hid hv
          all_goals clear hv
          · have c4_ := hA.base 4 (by rfl)
            simp only [List.getElem?_toArray, List.getElem?_cons_zero, List.getElem?_cons_succ, Option.getD_some] at c4_
            go_simp
            exact hK.out (.pointer (some ⟨b4, 0, none⟩)) _ ⟨oD, kD, HV.out.put 0 (fun _ h => some_eq h)⟩
          · have h0_ : L 0 = true := by simp [hd]
            have c65_ : ac.tmps[65]?.getD undef = .pointer (some ⟨b4, 0, none⟩) := (hA.get 0 h0_).trans (HV.out 0 _ rfl h0_)
            have u0_ := (oD.up 2).cell 0
            have u1_ := (oD.up 2).cell 1
            have u2_ := (oD.up 2).cell 2
            have u3_ := (oD.up 2).cell 3
            have u4_ := (oD.up 2).cell 4
            go_simp
            exact hK.out (.string AS) _ ⟨oD, kD, HV.out.put 1 (fun _ h => some_eq h)⟩
          · have h1_ : L 1 = true := by simp [hd]
            have c66_ : ac.tmps[66]?.getD undef = .string AS := (hA.get 1 h1_).trans (HV.out 1 _ rfl h1_)
            go_simp
            exact hK.out (.int .i64 (AS.size : Int)) _ ⟨oD, kD, HV.out.put 2 (fun _ h => some_eq h)⟩
          · have h2_ : L 2 = true := by simp [hd]
            have c67_ : ac.tmps[67]?.getD undef = .int .i64 (AS.size : Int) := (hA.get 2 h2_).trans (HV.out 2 _ rfl h2_)
            go_simp
            try simp only [ga1]
            try simp only [gb1]
            exact hK.out (.bool false) _ ⟨oD, kD, HV.out.put 3 (fun _ h => some_eq h)⟩
          · have h3_ : L 3 = true := by simp [hd]
            have c68_ : ac.tmps[68]?.getD undef = .bool false := (hA.get 3 h3_).trans (HV.out 3 _ rfl h3_)
            go_simp
            exact hK.out (.bool false) _ ⟨oD, kD, HV.out.put 4 (fun _ h => some_eq h)⟩
          · have c5_ := hA.base 5 (by rfl)
            simp only [List.getElem?_toArray, List.getElem?_cons_zero, List.getElem?_cons_succ, Option.getD_some] at c5_
            go_simp
            exact hK.out (.pointer (some ⟨(b4 + 1), 0, none⟩)) _ ⟨oD, kD, HV.out.put 5 (fun _ h => some_eq h)⟩
          · have h5_ : L 5 = true := by simp [hd]
            have c70_ : ac.tmps[70]?.getD undef = .pointer (some ⟨(b4 + 1), 0, none⟩) := (hA.get 5 h5_).trans (HV.out 5 _ rfl h5_)
            have u0_ := (oD.up 1).cell 0
            have u1_ := (oD.up 1).cell 1
            have u2_ := (oD.up 1).cell 2
            have u3_ := (oD.up 1).cell 3
            have u4_ := (oD.up 1).cell 4
            go_simp
            exact hK.out (.string BS) _ ⟨oD, kD, HV.out.put 6 (fun _ h => some_eq h)⟩
          · have h6_ : L 6 = true := by simp [hd]
            have c71_ : ac.tmps[71]?.getD undef = .string BS := (hA.get 6 h6_).trans (HV.out 6 _ rfl h6_)
            go_simp
            exact hK.out (.int .i64 (BS.size : Int)) _ ⟨oD, kD, HV.out.put 7 (fun _ h => some_eq h)⟩
          · have h7_ : L 7 = true := by simp [hd]
            have c72_ : ac.tmps[72]?.getD undef = .int .i64 (BS.size : Int) := (hA.get 7 h7_).trans (HV.out 7 _ rfl h7_)
            go_simp
            try simp only [ga1]
            try simp only [gb1]
            exact hK.out (.bool false) _ ⟨oD, kD, HV.out.put 8 (fun _ h => some_eq h)⟩
          · have h4_ : L 4 = true := by simp [hd]
            have c69_ : ac.tmps[69]?.getD undef = .bool false := (hA.get 4 h4_).trans (HV.out 4 _ rfl h4_)
            have h8_ : L 8 = true := by simp [hd]
            have c73_ : ac.tmps[73]?.getD undef = .bool false := (hA.get 8 h8_).trans (HV.out 8 _ rfl h8_)
            go_simp
            exact hK.out (.bool false) _ ⟨oD, kD, HV.out.put 9 (fun _ h => some_eq h)⟩
          · have h9_ : L 9 = true := by simp [hd]
            have c74_ : ac.tmps[74]?.getD undef = .bool false := (hA.get 9 h9_).trans (HV.out 9 _ rfl h9_)
            go_simp
            exact hK.out (.bool false) _ ⟨oD, kD, HV.out.put 10 (fun _ h => some_eq h)⟩
          · have c4_ := hA.base 4 (by rfl)
            simp only [List.getElem?_toArray, List.getElem?_cons_zero, List.getElem?_cons_succ, Option.getD_some] at c4_
            have u0_ := (oD.up 2).cell 0
            have u1_ := (oD.up 2).cell 1
            have u2_ := (oD.up 2).cell 2
            have u3_ := (oD.up 2).cell 3
            have u4_ := (oD.up 2).cell 4
            go_simp
            exact hK.out (.agg #[.string AS, .int .i64 aq, .int .i64 af, .int .i64 al, .int .i64 ay]) _ ⟨oD, kD, HV.out.put 11 (fun _ h => some_eq h)⟩
          · have c5_ := hA.base 5 (by rfl)
            simp only [List.getElem?_toArray, List.getElem?_cons_zero, List.getElem?_cons_succ, Option.getD_some] at c5_
            have u0_ := (oD.up 1).cell 0
            have u1_ := (oD.up 1).cell 1
            have u2_ := (oD.up 1).cell 2
            have u3_ := (oD.up 1).cell 3
            have u4_ := (oD.up 1).cell 4
            go_simp
            exact hK.out (.agg #[.string BS, .int .i64 bc, .int .i64 bf, .int .i64 bl, .int .i64 bw]) _ ⟨oD, kD, HV.out.put 12 (fun _ h => some_eq h)⟩
          · have h11_ : L 11 = true := by simp [hd]
            have c76_ : ac.tmps[76]?.getD undef = .agg #[.string AS, .int .i64 aq, .int .i64 af, .int .i64 al, .int .i64 ay] := (hA.get 11 h11_).trans (HV.out 11 _ rfl h11_)
            have h12_ : L 12 = true := by simp [hd]
            have c77_ : ac.tmps[77]?.getD undef = .agg #[.string BS, .int .i64 bc, .int .i64 bf, .int .i64 bl, .int .i64 bw] := (hA.get 12 h12_).trans (HV.out 12 _ rfl h12_)
            go_simp
            refine (qa.out _ _ (oD.up 0)).mono ?_
            rintro _ w3_ ⟨rfl, o3_, k3_⟩
            exact hK.out (.bool true) _ ⟨o3_.re [0], kD.trans k3_, HV.out.put 13 (fun _ h => some_eq h)⟩
          · have c4_ := hA.base 4 (by rfl)
            simp only [List.getElem?_toArray, List.getElem?_cons_zero, List.getElem?_cons_succ, Option.getD_some] at c4_
            have u0_ := (oD.up 2).cell 0
            have u1_ := (oD.up 2).cell 1
            have u2_ := (oD.up 2).cell 2
            have u3_ := (oD.up 2).cell 3
            have u4_ := (oD.up 2).cell 4
            go_simp
            exact hK.out (.agg #[.string AS, .int .i64 aq, .int .i64 af, .int .i64 al, .int .i64 ay]) _ ⟨oD, kD, HV.out.put 14 (fun _ h => some_eq h)⟩
          · have c5_ := hA.base 5 (by rfl)
            simp only [List.getElem?_toArray, List.getElem?_cons_zero, List.getElem?_cons_succ, Option.getD_some] at c5_
            have u0_ := (oD.up 1).cell 0
            have u1_ := (oD.up 1).cell 1
            have u2_ := (oD.up 1).cell 2
            have u3_ := (oD.up 1).cell 3
            have u4_ := (oD.up 1).cell 4
            go_simp
            exact hK.out (.agg #[.string BS, .int .i64 bc, .int .i64 bf, .int .i64 bl, .int .i64 bw]) _ ⟨oD, kD, HV.out.put 15 (fun _ h => some_eq h)⟩
          · have h14_ : L 14 = true := by simp [hd]
            have c79_ : ac.tmps[79]?.getD undef = .agg #[.string AS, .int .i64 aq, .int .i64 af, .int .i64 al, .int .i64 ay] := (hA.get 14 h14_).trans (HV.out 14 _ rfl h14_)
            have h15_ : L 15 = true := by simp [hd]
            have c80_ : ac.tmps[80]?.getD undef = .agg #[.string BS, .int .i64 bc, .int .i64 bf, .int .i64 bl, .int .i64 bw] := (hA.get 15 h15_).trans (HV.out 15 _ rfl h15_)
            go_simp
            refine (qb.out _ _ (oD.up 0)).mono ?_
            rintro _ w3_ ⟨rfl, o3_, k3_⟩
            exact hK.out (.bool true) _ ⟨o3_.re [0], kD.trans k3_, HV.out.put 16 (fun _ h => some_eq h)⟩
          · have h13_ : L 13 = true := by simp [hd]
            have c78_ : ac.tmps[78]?.getD undef = .bool true := (hA.get 13 h13_).trans (HV.out 13 _ rfl h13_)
            have h16_ : L 16 = true := by simp [hd]
            have c81_ : ac.tmps[81]?.getD undef = .bool true := (hA.get 16 h16_).trans (HV.out 16 _ rfl h16_)
            go_simp
            exact hK.out (.bool true) _ ⟨oD, kD, HV.out.put 17 (fun _ h => some_eq h)⟩
          · have h17_ : L 17 = true := by simp [hd]
            have c82_ : ac.tmps[82]?.getD undef = .bool true := (hA.get 17 h17_).trans (HV.out 17 _ rfl h17_)
            go_simp
            exact hK.out (.bool true) _ ⟨oD, kD, HV.out.put 18 (fun _ h => some_eq h)⟩
          · go_simp
            refine (HA.out _ _ (oD.up 0)).mono ?_
            rintro _ w3_ ⟨rfl, o3_, k3_⟩
            exact hK.out (.bool true) _ ⟨o3_.re [0], kD.trans k3_, HV.out.put 19 (fun _ h => some_eq h)⟩
          · have h18_ : L 18 = true := by simp [hd]
            have c83_ : ac.tmps[83]?.getD undef = .bool true := (hA.get 18 h18_).trans (HV.out 18 _ rfl h18_)
            have h19_ : L 19 = true := by simp [hd]
            have c84_ : ac.tmps[84]?.getD undef = .bool true := (hA.get 19 h19_).trans (HV.out 19 _ rfl h19_)
            go_simp
            exact hK.out (.bool true) _ ⟨oD, kD, HV.out.put 20 (fun _ h => some_eq h)⟩
          · have h10_ : L 10 = true := by simp [hd]
            have c75_ : ac.tmps[75]?.getD undef = .bool false := (hA.get 10 h10_).trans (HV.out 10 _ rfl h10_)
            have h20_ : L 20 = true := by simp [hd]
            have c85_ : ac.tmps[85]?.getD undef = .bool true := (hA.get 20 h20_).trans (HV.out 20 _ rfl h20_)
            go_simp
            exact hK.out (.bool true) _ ⟨oD, kD, HV.out.put 21 (fun _ h => some_eq h)⟩
          · have h21_ : L 21 = true := by simp [hd]
            have c86_ : ac.tmps[86]?.getD undef = .bool true := (hA.get 21 h21_).trans (HV.out 21 _ rfl h21_)
            go_simp
            exact hK.out (.bool true) _ ⟨oD, kD, HV.out.put 22 (fun _ h => some_eq h)⟩
        case fin =>
          rintro L v wc hall ⟨oD, kD, hv⟩
          have h22 := hv 22 _ rfl (hall 22 (by decide))
          clear hv hall
          simp only [putAll, Act.put, List.setIfInBounds_toArray, List.set_cons_zero, List.set_cons_succ]
          go_wp2
          go_ret
          exact ⟨by first | rfl | exact congrArg _ h22, (oD.up 0).below kD⟩
end
end Go.Proofs.YtbldanhjbnpdiaaGreatDoor
