/- RulesClassify: the walk (printed by gencl.py). -/
import Derived.Test.YtbldanhjbnpdiaaGreatDoorRuX
import Derived.Test.YtbldanhjbnpdiaaGreatDoorRuJ0
import Derived.Test.YtbldanhjbnpdiaaGreatDoorRuU
import Derived.Test.YtbldanhjbnpdiaaGreatDoorDrawG
import Derived.Deep.RegionHeld3
import Derived.Laws.Rows
namespace Go.Proofs.YtbldanhjbnpdiaaGreatDoor
open Go.RowKit
open Go.Shelf
open SP
section
variable {W w w' : World} {R : List SP}
set_option maxHeartbeats 25600000 in
set_option maxRecDepth 100000 in
theorem rulesClassify_walk (a0 : Option Addr) (len0 cap0 : Nat) (z0 : List Int) (a : Ru) (b : Hd) (w : World) (w0 : IsRow .i64 w a0 len0 cap0 z0) (hT : TabsW w) (hm : MaxV w) :
    Calls Tryz.prog 4 #[.slice a0 len0 cap0, ruV a, hdV b] w fun e w' => e = .returned (.bool true) ∧ Below w.heap.size w w' := by
  have oW := (((Own.start w).alloc (.cells #[.string (mkB a.st), .int .i64 a.cls, .int .i64 a.first, .int .i64 a.last, .int .i64 a.flow] 24)).alloc (.cells #[.string (mkB b.st), .int .i64 b.cls, .int .i64 b.port, .int .i64 b.len, .int .i64 b.life] 29)).up 2
  simp only [World.size_alloc] at oW
  have PM := Lib.hid fun (x : Ru) (y : Hd) (hx : x.st.length ≤ 2000000) (hy : y.st.length ≤ 2000000) (w1 : World) (R : List SP) (o1 : Own w1 (old w :: R)) => ruMatches_spec x y hx hy hT o1
  have RM := Lib.hid fun (x : Ru) (y : Hd) (hx : x.st.length ≤ 2000000) (hy : y.st.length ≤ 2000000) (w1 : World) (R : List SP) (o1 : Own w1 (old w :: R)) => refMatches_spec x y hx hy hT o1
  have PL := Lib.hid fun (l : List Ru) (aa : Option Addr) (n c : Nat) (h : Hd) (hn : n = l.length) (hn2 : n ≤ 1000) (hl : ∀ r ∈ l, r.st.length ≤ 2000000) (hh : h.st.length ≤ 2000000) (w1 : World) (R : List SP) (o1 : Own w1 (old w :: slc 24 5 aa n c (flat ruC l) :: R)) => ruClassify_spec h hn hn2 hl hh hT o1
  have RL := Lib.hid fun (l : List Ru) (aa : Option Addr) (n c : Nat) (h : Hd) (hn : n = l.length) (hn2 : n ≤ 1000) (hl : ∀ r ∈ l, r.st.length ≤ 2000000) (hh : h.st.length ≤ 2000000) (w1 : World) (R : List SP) (o1 : Own w1 (old w :: slc 24 5 aa n c (flat ruC l) :: R)) => refClassify_spec h hn hn2 hl hh hT o1
  have HA := Lib.hid fun (w1 : World) (R : List SP) (o1 : Own w1 (old w :: R)) => awake9_spec hm o1
  clear hT hm
  have pab := Lib.hid fun (hx : a.st.length ≤ 2000000) (hy : b.st.length ≤ 2000000) => PM.out a b hx hy
  have rab := Lib.hid fun (hx : a.st.length ≤ 2000000) (hy : b.st.length ≤ 2000000) => RM.out a b hx hy
  have pqb := Lib.hid fun (x : Ru) (hx : x.st.length ≤ 2000000) (hy : b.st.length ≤ 2000000) => PM.out x b hx hy
  have rqb := Lib.hid fun (x : Ru) (hx : x.st.length ≤ 2000000) (hy : b.st.length ≤ 2000000) => RM.out x b hx hy
  have mq : ∃ mf : Ru → Bool, ∀ x, matOK x b = mf x := ⟨_, fun _ => rfl⟩
  obtain ⟨mf, hmf⟩ := mq
  simp only [hmf] at pqb rqb
  generalize matOK a b = zab at *
  unfold ruV hdV at pab rab pqb rqb ⊢
  have hla : (mkB a.st).size = a.st.length := mkB_size _
  have hlb : (mkB b.st).size = b.st.length := mkB_size _
  clear hmf
  generalize mkB a.st = AS at *
  generalize mkB b.st = BS at *
  generalize a.cls = aq at *
  generalize a.first = af at *
  generalize a.last = al at *
  generalize a.flow = ay at *
  generalize a.st = ast at *
  generalize b.cls = bc at *
  generalize b.port = bf at *
  generalize b.len = bl at *
  generalize b.life = bw at *
  generalize b.st = bst at *
  go_enter Tryz.func4, Tryz.ntmps4
  go_wp2_with fail
  refine (genNew_spec a0 len0 cap0 z0 (w0) oW).mono ?_
  rintro e1 v1 ⟨cb, rfl, o1, k1⟩
  have k1 := k1.al.al
  generalize hg0 : w.heap.size = g0 at *
  have hT1 : ∃ i : Nat, (Value.int .i64 0 : Value) = .int .i64 (i : Int) ∧ i ≤ 4 ∧ Own v1 [Ch w cb (36 * i), old w, cel (g0 + 1) 29 [.string BS, .int .i64 bc, .int .i64 bf, .int .i64 bl, .int .i64 bw], cel g0 24 [.string AS, .int .i64 aq, .int .i64 af, .int .i64 al, .int .i64 ay]] ∧ Calm w v1 := ⟨0, rfl, by omega, o1, k1⟩
  go_wp2
  go_loopw [8] (fun v wr => ∃ i : Nat, v = .int .i64 (i : Int) ∧ i ≤ 4 ∧ Own wr [Ch w cb (36 * i), old w, cel (g0 + 1) 29 [.string BS, .int .i64 bc, .int .i64 bf, .int .i64 bl, .int .i64 bw], cel g0 24 [.string AS, .int .i64 aq, .int .i64 af, .int .i64 al, .int .i64 ay]] ∧ Calm w wr) (fun v _ => 4 - viN v)
  case atStart => exact hT1
  case round =>
    clear hT1 o1 k1 oW
    obtain ⟨i, rfl, hi, oR, kR⟩ := hrel
    by_cases hlt : i < 4
    · have dl : decide (i < 4) = true := decide_eq_true hlt
      go_wp2_with fail
      refine (next_spec w cb (36 * i) 5 _ _ (by omega) (by omega) (by omega) oR).mono ?_
      rintro e2 w2 ⟨x2, hx0, hx1, rfl, o2, k2⟩
      obtain ⟨k0, rfl⟩ : ∃ k : Nat, x2 = (k : Int) := ⟨x2.toNat, by omega⟩
      have hk0 : k0 < 5 := by omega
      have hS : RuRel w w2 cb (36 * i + 1) k0 [cel (g0 + 1) 29 [.string BS, .int .i64 bc, .int .i64 bf, .int .i64 bl, .int .i64 bw], cel g0 24 [.string AS, .int .i64 aq, .int .i64 af, .int .i64 al, .int .i64 ay]] (.int .i64 (k0 : Int)) (.slice none 0 0) w2 := RuRel.start o2
      have K2 := kR.trans k2
      clear oR kR o2 k2 hx0 hx1
      go_wp2
      go_loopw [10, 9] (fun v10 v9 wr => RuRel w w2 cb (36 * i + 1) k0 [cel (g0 + 1) 29 [.string BS, .int .i64 bc, .int .i64 bf, .int .i64 bl, .int .i64 bw], cel g0 24 [.string AS, .int .i64 aq, .int .i64 af, .int .i64 al, .int .i64 ay]] v10 v9 wr) (fun v _ _ => viN v)
      case atStart => exact hS
      case round =>
        clear hS
        obtain ⟨k, l, aa, c, rfl, hk, rfl, hl, hG, oR, kR⟩ := hrel
        by_cases hkp : 0 < k
        · obtain ⟨k, rfl⟩ : ∃ k', k = k' + 1 := ⟨k - 1, by omega⟩
          have dk : decide ((0 : Int) < ((k + 1 : Nat) : Int)) = true := decide_eq_true (by omega)
          obtain ⟨n, hn⟩ : ∃ n, k0 - (k + 1) = n := ⟨_, rfl⟩
          rw [hn] at hl oR
          simp only [hn]
          have HL := Lib.hid hl
          clear hl
          go_wp2_with fail
          refine (genRule_spec (36 * i + 1 + 6 * n) (by omega) oR).mono ?_
          rintro e3 w3 ⟨r, hr, rfl, o3, k3⟩
          have oA := (o3.alloc (.cells #[.string (mkB r.st), .int .i64 r.cls, .int .i64 r.first, .int .i64 r.last, .int .i64 r.flow] 24))
          have hnw := Own.news (T := 24) (vs := ruC r) oA
          unfold ruV
          go_wp2_with (at_builtin; refine wpList_append_slc rfl _ _ rfl Tryz.ruT rfl (oA.up 3) ⟨w3.heap.size, 0, none⟩ 1 1 (ruC r) rfl rfl hnw (by intro z hz; unfold ruC at hz; simp at hz; rcases hz with rfl | rfl | rfl | rfl | rfl <;> rfl) (by unfold maxLen; omega) (by omega) ?_)
          intro a4 c4 w4 o4 k4
          go_wp2
          go_roundw
          case rel => exact RuRel.next (k := k) (by go_num) (by omega) hn.symm HL.out hG hr (o4.up 1).drop (kR.trans (k3.trans (Calm.al k4)))
          case measure => simp [viN]
        · have hk0' : k = 0 := by omega
          subst hk0'
          rw [Nat.sub_zero] at hl oR
          simp only [Nat.sub_zero]
          have dk : decide ((0 : Int) < ((0 : Nat) : Int)) = false := rfl
          go_wp2_with fail
          refine (genHeader_spec (36 * i + 1 + 6 * k0) (by omega) oR).mono ?_
          rintro e3 w3 ⟨h, hh, rfl, o3, k3⟩
          have hhl : h.st.length ≤ 2000000 := by have := hh.len; omega
          have c1 := Lib.hid (PL.out l aa k0 c h hl (by omega) (grus_len hG) hhl)
          have c2 := Lib.hid (RL.out l aa k0 c h hl (by omega) (grus_len hG) hhl)
          have c3 := Lib.hid fun (x : Ru) (hx : x.st.length ≤ 2000000) => PM.out x h hx hhl
          have c4 := Lib.hid fun (x : Ru) (hx : x.st.length ≤ 2000000) => RM.out x h hx hhl
          have K3 := K2.trans (kR.trans k3)
          obtain ⟨mh, hmh⟩ : ∃ mf : Ru → Bool, ∀ x, matOK x h = mf x := ⟨_, fun _ => rfl⟩
          simp only [hmh] at c3 c4
          unfold hdV at c1 c2 c3 c4 ⊢
          unfold clsV at c1 c2
          generalize clsO l h = oc at *
          generalize oc.getD (-1) = fv at *
          generalize oc.isSome = fb at *
          generalize flat ruC l = fl at *
          clear hl hG hh hhl oR kR k3 K2 hmh PL RL PM RM
          generalize mkB h.st = XS at *
          generalize h.cls = x1 at *
          generalize h.port = x2 at *
          generalize h.len = x3 at *
          generalize h.life = x4 at *
          have o4 := (o3.alloc (.cells #[.string XS, .int .i64 x1, .int .i64 x2, .int .i64 x3, .int .i64 x4] 29)).re [2, 3, 0, 1]
          have y0_ := (o4.up 2).cell 0
          have y1_ := (o4.up 2).cell 1
          have y2_ := (o4.up 2).cell 2
          have y3_ := (o4.up 2).cell 3
          have y4_ := (o4.up 2).cell 4
          go_wp2_with fail
          refine (c1.out _ _ o4).mono ?_
          rintro e4 w4 ⟨rfl, o5, k5⟩
          have K5 := K3.trans (Calm.al k5)
          clear y0_ y1_ y2_ y3_ y4_ o4 k5 K3
          generalize w3.heap.size = gx at *
          have y0_ := (o5.up 2).cell 0
          have y1_ := (o5.up 2).cell 1
          have y2_ := (o5.up 2).cell 2
          have y3_ := (o5.up 2).cell 3
          have y4_ := (o5.up 2).cell 4
          go_wp2_with fail
          refine (c2.out _ _ o5).mono ?_
          rintro e6 w6 ⟨rfl, o6, k6⟩
          have K6 := K5.trans k6
          clear y0_ y1_ y2_ y3_ y4_ o5 k6 K5 o3
          go_wp2_with fail
          refine (genRule_spec (36 * i + 1 + 6 * k0 + 5) (by omega) (o6.re [3, 0, 2])).mono ?_
          rintro e7 w7 ⟨q, hq, rfl, o7, k7⟩
          have K7 := K6.trans k7
          have hql : q.st.length ≤ 2000000 := by have := hq.len; omega
          have c3 := Lib.hid (c3.out q hql)
          have c4 := Lib.hid (c4.out q hql)
          have c5 := Lib.hid (pqb.out q hql)
          have c6 := Lib.hid (rqb.out q hql)
          clear hql hq o6 k7 K6 pqb rqb
          unfold ruV at c3 c4 ⊢
          generalize mh q = zq at *
          generalize mf q = zr at *
          generalize mkB q.st = QS at *
          generalize q.cls = q1 at *
          generalize q.first = q2 at *
          generalize q.last = q3 at *
          generalize q.flow = q4 at *
          have o8 := (o7.alloc (.cells #[.string QS, .int .i64 q1, .int .i64 q2, .int .i64 q3, .int .i64 q4] 24)).re [2, 0, 3, 1]
          have k8 := calm_alloc (x := .cells #[.string QS, .int .i64 q1, .int .i64 q2, .int .i64 q3, .int .i64 q4] 24) K7
          go_upto_region 14 with fail
          generalize w7.heap.size = gq at *
          generalize w7.alloc (.cells #[.string QS, .int .i64 q1, .int .i64 q2, .int .i64 q3, .int .i64 q4] 24) = w8 at *
          clear K7 o7
          have o8 : Own w8 (old w :: cel gq 24 [.string QS, .int .i64 q1, .int .i64 q2, .int .i64 q3, .int .i64 q4] :: cel gx 29 [.string XS, .int .i64 x1, .int .i64 x2, .int .i64 x3, .int .i64 x4] :: Ch w cb (36 * i + 1 + 6 * k0 + 5 + 6) :: slc 24 5 aa k0 c fl :: cel (g0 + 1) 29 [.string BS, .int .i64 bc, .int .i64 bf, .int .i64 bl, .int .i64 bw] :: cel g0 24 [.string AS, .int .i64 aq, .int .i64 af, .int .i64 al, .int .i64 ay] :: []) := o8
          go_cut [81] (fun v wc => v = .bool false ∧ Own wc (old w :: cel gq 24 [.string QS, .int .i64 q1, .int .i64 q2, .int .i64 q3, .int .i64 q4] :: cel gx 29 [.string XS, .int .i64 x1, .int .i64 x2, .int .i64 x3, .int .i64 x4] :: Ch w cb (36 * i + 1 + 6 * k0 + 5 + 6) :: slc 24 5 aa k0 c fl :: cel (g0 + 1) 29 [.string BS, .int .i64 bc, .int .i64 bf, .int .i64 bl, .int .i64 bw] :: cel g0 24 [.string AS, .int .i64 aq, .int .i64 af, .int .i64 al, .int .i64 ay] :: []) ∧ Calm w wc)
          case first =>
            by_cases gb : BS.size < 60
            · have gb1 : decide ((BS.size : Int) < (60 : Int)) = true := decide_eq_true (by omega)
              have c5 := Lib.hid (c5.out (by omega))
              have c6 := Lib.hid (c6.out (by omega))
              clear hla hlb
              refine wp_region_draws (fun L v wc => Own wc (old w :: cel gq 24 [.string QS, .int .i64 q1, .int .i64 q2, .int .i64 q3, .int .i64 q4] :: cel gx 29 [.string XS, .int .i64 x1, .int .i64 x2, .int .i64 x3, .int .i64 x4] :: Ch w cb (36 * i + 1 + 6 * k0 + 5 + 6) :: slc 24 5 aa k0 c fl :: cel (g0 + 1) 29 [.string BS, .int .i64 bc, .int .i64 bf, .int .i64 bl, .int .i64 bw] :: cel g0 24 [.string AS, .int .i64 aq, .int .i64 af, .int .i64 al, .int .i64 ay] :: []) ∧ Calm w wc ∧ OVals (fun i => ([some (.int .i64 fv), some (.int .i64 fv), some (.bool false), some (.bool false), some (.bool fb), some (.bool fb), some (.bool false), some (.bool false), some (.bool false), some (.agg #[.string QS, .int .i64 q1, .int .i64 q2, .int .i64 q3, .int .i64 q4]), some (.agg #[.string XS, .int .i64 x1, .int .i64 x2, .int .i64 x3, .int .i64 x4]), some (.bool zq), some (.agg #[.string QS, .int .i64 q1, .int .i64 q2, .int .i64 q3, .int .i64 q4]), some (.agg #[.string XS, .int .i64 x1, .int .i64 x2, .int .i64 x3, .int .i64 x4]), some (.bool zq), some (.bool false), some (.bool false), some (.bool false), some (.pointer (some ⟨(g0 + 1), 0, none⟩)), some (.string BS), some (.int .i64 (BS.size : Int)), some (.bool true), some (.bool true), some (.agg #[.string QS, .int .i64 q1, .int .i64 q2, .int .i64 q3, .int .i64 q4]), some (.agg #[.string BS, .int .i64 bc, .int .i64 bf, .int .i64 bl, .int .i64 bw]), some (.bool zr), some (.agg #[.string QS, .int .i64 q1, .int .i64 q2, .int .i64 q3, .int .i64 q4]), some (.agg #[.string BS, .int .i64 bc, .int .i64 bf, .int .i64 bl, .int .i64 bw]), some (.bool zr), some (.bool false), some (.bool false), some (.bool false)] : List (Option Value)).getD i none) L v) (by kernel_rfl) (by kernel_rfl) (by kernel_rfl) ?h0 ?step ?fin
              case h0 => exact ⟨o8.drew, ⟨k8.os, k8.tape, k8.output⟩, OVals.no⟩
              case step =>
                refine ⟨DrawStep.mk rfl ?_, DrawStep.mk rfl ?_, DrawStep.mk rfl ?_, DrawStep.mk rfl ?_, DrawStep.run rfl rfl (by kernel_rfl) (fun L v w hI hl => hI.2.2 3 _ rfl hl) ?_, DrawStep.run rfl rfl (by kernel_rfl) (fun L v w hI hl => hI.2.2 3 _ rfl hl) ?_, DrawStep.run rfl rfl (by kernel_rfl) (fun L v w hI hl => hI.2.2 3 _ rfl hl) ?_, DrawStep.mk rfl ?_, DrawStep.mk rfl ?_, DrawStep.run rfl rfl (by kernel_rfl) (fun L v w hI hl => hI.2.2 8 _ rfl hl) ?_, DrawStep.run rfl rfl (by kernel_rfl) (fun L v w hI hl => hI.2.2 8 _ rfl hl) ?_, DrawStep.run rfl rfl (by kernel_rfl) (fun L v w hI hl => hI.2.2 8 _ rfl hl) ?_, DrawStep.run rfl rfl (by kernel_rfl) (fun L v w hI hl => hI.2.2 8 _ rfl hl) ?_, DrawStep.run rfl rfl (by kernel_rfl) (fun L v w hI hl => hI.2.2 8 _ rfl hl) ?_, DrawStep.run rfl rfl (by kernel_rfl) (fun L v w hI hl => hI.2.2 8 _ rfl hl) ?_, DrawStep.run rfl rfl (by kernel_rfl) (fun L v w hI hl => hI.2.2 8 _ rfl hl) ?_, DrawStep.mk rfl ?_, DrawStep.mk rfl ?_, DrawStep.run rfl rfl (by kernel_rfl) (fun L v w hI hl => hI.2.2 17 _ rfl hl) ?_, DrawStep.run rfl rfl (by kernel_rfl) (fun L v w hI hl => hI.2.2 17 _ rfl hl) ?_, DrawStep.run rfl rfl (by kernel_rfl) (fun L v w hI hl => hI.2.2 17 _ rfl hl) ?_, DrawStep.run rfl rfl (by kernel_rfl) (fun L v w hI hl => hI.2.2 17 _ rfl hl) ?_, DrawStep.run rfl rfl (by kernel_rfl) (fun L v w hI hl => hI.2.2 17 _ rfl hl) ?_, DrawStep.run rfl rfl (by kernel_rfl) (fun L v w hI hl => hI.2.2 22 _ rfl hl) ?_, DrawStep.run rfl rfl (by kernel_rfl) (fun L v w hI hl => hI.2.2 22 _ rfl hl) ?_, DrawStep.run rfl rfl (by kernel_rfl) (fun L v w hI hl => hI.2.2 22 _ rfl hl) ?_, DrawStep.run rfl rfl (by kernel_rfl) (fun L v w hI hl => hI.2.2 22 _ rfl hl) ?_, DrawStep.run rfl rfl (by kernel_rfl) (fun L v w hI hl => hI.2.2 22 _ rfl hl) ?_, DrawStep.run rfl rfl (by kernel_rfl) (fun L v w hI hl => hI.2.2 22 _ rfl hl) ?_, DrawStep.run rfl rfl (by kernel_rfl) (fun L v w hI hl => hI.2.2 22 _ rfl hl) ?_, DrawStep.run rfl rfl (by kernel_rfl) (fun L v w hI hl => hI.2.2 17 _ rfl hl) ?_, DrawStep.mk rfl ?_, trivial⟩
                all_goals intro L v actZ wc hL hd hA hI K' hK
                all_goals obtain ⟨oD, kD, hv⟩ := hI
                all_goals simp [Region.binds] at hd
                all_goals have HV := Lib.hid hv
                all_goals clear hv
                · have c12_ := hA.base 12 (by rfl)
                  simp only [List.getElem?_toArray, List.getElem?_cons_zero, List.getElem?_cons_succ, Option.getD_some] at c12_
                  go_simp
                  exact hK.out (.int .i64 fv) _ ⟨oD, kD, HV.out.put 0 (fun _ h => some_eq h)⟩
                · have c14_ := hA.base 14 (by rfl)
                  simp only [List.getElem?_toArray, List.getElem?_cons_zero, List.getElem?_cons_succ, Option.getD_some] at c14_
                  go_simp
                  exact hK.out (.int .i64 fv) _ ⟨oD, kD, HV.out.put 1 (fun _ h => some_eq h)⟩
                · have h0_ : L 0 = true := by simp [hd]
                  have c50_ : actZ.tmps[50]?.getD undef = .int .i64 fv := (hA.get 0 h0_).trans (HV.out 0 _ rfl h0_)
                  have h1_ : L 1 = true := by simp [hd]
                  have c51_ : actZ.tmps[51]?.getD undef = .int .i64 fv := (hA.get 1 h1_).trans (HV.out 1 _ rfl h1_)
                  go_simp
                  exact hK.out (.bool false) _ ⟨oD, kD, HV.out.put 2 (fun _ h => some_eq h)⟩
                · have h2_ : L 2 = true := by simp [hd]
                  have c52_ : actZ.tmps[52]?.getD undef = .bool false := (hA.get 2 h2_).trans (HV.out 2 _ rfl h2_)
                  go_simp
                  exact hK.out (.bool false) _ ⟨oD, kD, HV.out.put 3 (fun _ h => some_eq h)⟩
                · have c13_ := hA.base 13 (by rfl)
                  simp only [List.getElem?_toArray, List.getElem?_cons_zero, List.getElem?_cons_succ, Option.getD_some] at c13_
                  go_simp
                  exact hK.out (.bool fb) _ ⟨oD, kD, HV.out.put 4 (fun _ h => some_eq h)⟩
                · have c15_ := hA.base 15 (by rfl)
                  simp only [List.getElem?_toArray, List.getElem?_cons_zero, List.getElem?_cons_succ, Option.getD_some] at c15_
                  go_simp
                  exact hK.out (.bool fb) _ ⟨oD, kD, HV.out.put 5 (fun _ h => some_eq h)⟩
                · have h4_ : L 4 = true := by simp [hd]
                  have c54_ : actZ.tmps[54]?.getD undef = .bool fb := (hA.get 4 h4_).trans (HV.out 4 _ rfl h4_)
                  have h5_ : L 5 = true := by simp [hd]
                  have c55_ : actZ.tmps[55]?.getD undef = .bool fb := (hA.get 5 h5_).trans (HV.out 5 _ rfl h5_)
                  go_simp
                  exact hK.out (.bool false) _ ⟨oD, kD, HV.out.put 6 (fun _ h => some_eq h)⟩
                · have h3_ : L 3 = true := by simp [hd]
                  have c53_ : actZ.tmps[53]?.getD undef = .bool false := (hA.get 3 h3_).trans (HV.out 3 _ rfl h3_)
                  have h6_ : L 6 = true := by simp [hd]
                  have c56_ : actZ.tmps[56]?.getD undef = .bool false := (hA.get 6 h6_).trans (HV.out 6 _ rfl h6_)
                  go_simp
                  exact hK.out (.bool false) _ ⟨oD, kD, HV.out.put 7 (fun _ h => some_eq h)⟩
                · have h7_ : L 7 = true := by simp [hd]
                  have c57_ : actZ.tmps[57]?.getD undef = .bool false := (hA.get 7 h7_).trans (HV.out 7 _ rfl h7_)
                  go_simp
                  exact hK.out (.bool false) _ ⟨oD, kD, HV.out.put 8 (fun _ h => some_eq h)⟩
                · have c16_ := hA.base 16 (by rfl)
                  simp only [List.getElem?_toArray, List.getElem?_cons_zero, List.getElem?_cons_succ, Option.getD_some] at c16_
                  have u0_ := (oD.up 1).cell 0
                  have u1_ := (oD.up 1).cell 1
                  have u2_ := (oD.up 1).cell 2
                  have u3_ := (oD.up 1).cell 3
                  have u4_ := (oD.up 1).cell 4
                  go_simp
                  exact hK.out (.agg #[.string QS, .int .i64 q1, .int .i64 q2, .int .i64 q3, .int .i64 q4]) _ ⟨oD, kD, HV.out.put 9 (fun _ h => some_eq h)⟩
                · have c11_ := hA.base 11 (by rfl)
                  simp only [List.getElem?_toArray, List.getElem?_cons_zero, List.getElem?_cons_succ, Option.getD_some] at c11_
                  have u0_ := (oD.up 2).cell 0
                  have u1_ := (oD.up 2).cell 1
                  have u2_ := (oD.up 2).cell 2
                  have u3_ := (oD.up 2).cell 3
                  have u4_ := (oD.up 2).cell 4
                  go_simp
                  exact hK.out (.agg #[.string XS, .int .i64 x1, .int .i64 x2, .int .i64 x3, .int .i64 x4]) _ ⟨oD, kD, HV.out.put 10 (fun _ h => some_eq h)⟩
                · have h9_ : L 9 = true := by simp [hd]
                  have c59_ : actZ.tmps[59]?.getD undef = .agg #[.string QS, .int .i64 q1, .int .i64 q2, .int .i64 q3, .int .i64 q4] := (hA.get 9 h9_).trans (HV.out 9 _ rfl h9_)
                  have h10_ : L 10 = true := by simp [hd]
                  have c60_ : actZ.tmps[60]?.getD undef = .agg #[.string XS, .int .i64 x1, .int .i64 x2, .int .i64 x3, .int .i64 x4] := (hA.get 10 h10_).trans (HV.out 10 _ rfl h10_)
                  go_simp
                  refine (c3.out _ _ (oD.up 0)).mono ?_
                  rintro _ w3_ ⟨rfl, o3_, k3_⟩
                  exact hK.out (.bool zq) _ ⟨o3_.re [0], kD.trans k3_, HV.out.put 11 (fun _ h => some_eq h)⟩
                · have c16_ := hA.base 16 (by rfl)
                  simp only [List.getElem?_toArray, List.getElem?_cons_zero, List.getElem?_cons_succ, Option.getD_some] at c16_
                  have u0_ := (oD.up 1).cell 0
                  have u1_ := (oD.up 1).cell 1
                  have u2_ := (oD.up 1).cell 2
                  have u3_ := (oD.up 1).cell 3
                  have u4_ := (oD.up 1).cell 4
                  go_simp
                  exact hK.out (.agg #[.string QS, .int .i64 q1, .int .i64 q2, .int .i64 q3, .int .i64 q4]) _ ⟨oD, kD, HV.out.put 12 (fun _ h => some_eq h)⟩
                · have c11_ := hA.base 11 (by rfl)
                  simp only [List.getElem?_toArray, List.getElem?_cons_zero, List.getElem?_cons_succ, Option.getD_some] at c11_
                  have u0_ := (oD.up 2).cell 0
                  have u1_ := (oD.up 2).cell 1
                  have u2_ := (oD.up 2).cell 2
                  have u3_ := (oD.up 2).cell 3
                  have u4_ := (oD.up 2).cell 4
                  go_simp
                  exact hK.out (.agg #[.string XS, .int .i64 x1, .int .i64 x2, .int .i64 x3, .int .i64 x4]) _ ⟨oD, kD, HV.out.put 13 (fun _ h => some_eq h)⟩
                · have h12_ : L 12 = true := by simp [hd]
                  have c62_ : actZ.tmps[62]?.getD undef = .agg #[.string QS, .int .i64 q1, .int .i64 q2, .int .i64 q3, .int .i64 q4] := (hA.get 12 h12_).trans (HV.out 12 _ rfl h12_)
                  have h13_ : L 13 = true := by simp [hd]
                  have c63_ : actZ.tmps[63]?.getD undef = .agg #[.string XS, .int .i64 x1, .int .i64 x2, .int .i64 x3, .int .i64 x4] := (hA.get 13 h13_).trans (HV.out 13 _ rfl h13_)
                  go_simp
                  refine (c4.out _ _ (oD.up 0)).mono ?_
                  rintro _ w3_ ⟨rfl, o3_, k3_⟩
                  exact hK.out (.bool zq) _ ⟨o3_.re [0], kD.trans k3_, HV.out.put 14 (fun _ h => some_eq h)⟩
                · have h11_ : L 11 = true := by simp [hd]
                  have c61_ : actZ.tmps[61]?.getD undef = .bool zq := (hA.get 11 h11_).trans (HV.out 11 _ rfl h11_)
                  have h14_ : L 14 = true := by simp [hd]
                  have c64_ : actZ.tmps[64]?.getD undef = .bool zq := (hA.get 14 h14_).trans (HV.out 14 _ rfl h14_)
                  go_simp
                  exact hK.out (.bool false) _ ⟨oD, kD, HV.out.put 15 (fun _ h => some_eq h)⟩
                · have h8_ : L 8 = true := by simp [hd]
                  have c58_ : actZ.tmps[58]?.getD undef = .bool false := (hA.get 8 h8_).trans (HV.out 8 _ rfl h8_)
                  have h15_ : L 15 = true := by simp [hd]
                  have c65_ : actZ.tmps[65]?.getD undef = .bool false := (hA.get 15 h15_).trans (HV.out 15 _ rfl h15_)
                  go_simp
                  exact hK.out (.bool false) _ ⟨oD, kD, HV.out.put 16 (fun _ h => some_eq h)⟩
                · have h16_ : L 16 = true := by simp [hd]
                  have c66_ : actZ.tmps[66]?.getD undef = .bool false := (hA.get 16 h16_).trans (HV.out 16 _ rfl h16_)
                  go_simp
                  exact hK.out (.bool false) _ ⟨oD, kD, HV.out.put 17 (fun _ h => some_eq h)⟩
                · have c5_ := hA.base 5 (by rfl)
                  simp only [List.getElem?_toArray, List.getElem?_cons_zero, List.getElem?_cons_succ, Option.getD_some] at c5_
                  go_simp
                  exact hK.out (.pointer (some ⟨(g0 + 1), 0, none⟩)) _ ⟨oD, kD, HV.out.put 18 (fun _ h => some_eq h)⟩
                · have h18_ : L 18 = true := by simp [hd]
                  have c68_ : actZ.tmps[68]?.getD undef = .pointer (some ⟨(g0 + 1), 0, none⟩) := (hA.get 18 h18_).trans (HV.out 18 _ rfl h18_)
                  have u0_ := (oD.up 5).cell 0
                  have u1_ := (oD.up 5).cell 1
                  have u2_ := (oD.up 5).cell 2
                  have u3_ := (oD.up 5).cell 3
                  have u4_ := (oD.up 5).cell 4
                  go_simp
                  exact hK.out (.string BS) _ ⟨oD, kD, HV.out.put 19 (fun _ h => some_eq h)⟩
                · have h19_ : L 19 = true := by simp [hd]
                  have c69_ : actZ.tmps[69]?.getD undef = .string BS := (hA.get 19 h19_).trans (HV.out 19 _ rfl h19_)
                  go_simp
                  exact hK.out (.int .i64 (BS.size : Int)) _ ⟨oD, kD, HV.out.put 20 (fun _ h => some_eq h)⟩
                · have h20_ : L 20 = true := by simp [hd]
                  have c70_ : actZ.tmps[70]?.getD undef = .int .i64 (BS.size : Int) := (hA.get 20 h20_).trans (HV.out 20 _ rfl h20_)
                  go_simp
                  try simp only [gb1]
                  exact hK.out (.bool true) _ ⟨oD, kD, HV.out.put 21 (fun _ h => some_eq h)⟩
                · have h21_ : L 21 = true := by simp [hd]
                  have c71_ : actZ.tmps[71]?.getD undef = .bool true := (hA.get 21 h21_).trans (HV.out 21 _ rfl h21_)
                  go_simp
                  exact hK.out (.bool true) _ ⟨oD, kD, HV.out.put 22 (fun _ h => some_eq h)⟩
                · have c16_ := hA.base 16 (by rfl)
                  simp only [List.getElem?_toArray, List.getElem?_cons_zero, List.getElem?_cons_succ, Option.getD_some] at c16_
                  have u0_ := (oD.up 1).cell 0
                  have u1_ := (oD.up 1).cell 1
                  have u2_ := (oD.up 1).cell 2
                  have u3_ := (oD.up 1).cell 3
                  have u4_ := (oD.up 1).cell 4
                  go_simp
                  exact hK.out (.agg #[.string QS, .int .i64 q1, .int .i64 q2, .int .i64 q3, .int .i64 q4]) _ ⟨oD, kD, HV.out.put 23 (fun _ h => some_eq h)⟩
                · have c5_ := hA.base 5 (by rfl)
                  simp only [List.getElem?_toArray, List.getElem?_cons_zero, List.getElem?_cons_succ, Option.getD_some] at c5_
                  have u0_ := (oD.up 5).cell 0
                  have u1_ := (oD.up 5).cell 1
                  have u2_ := (oD.up 5).cell 2
                  have u3_ := (oD.up 5).cell 3
                  have u4_ := (oD.up 5).cell 4
                  go_simp
                  exact hK.out (.agg #[.string BS, .int .i64 bc, .int .i64 bf, .int .i64 bl, .int .i64 bw]) _ ⟨oD, kD, HV.out.put 24 (fun _ h => some_eq h)⟩
                · have h23_ : L 23 = true := by simp [hd]
                  have c73_ : actZ.tmps[73]?.getD undef = .agg #[.string QS, .int .i64 q1, .int .i64 q2, .int .i64 q3, .int .i64 q4] := (hA.get 23 h23_).trans (HV.out 23 _ rfl h23_)
                  have h24_ : L 24 = true := by simp [hd]
                  have c74_ : actZ.tmps[74]?.getD undef = .agg #[.string BS, .int .i64 bc, .int .i64 bf, .int .i64 bl, .int .i64 bw] := (hA.get 24 h24_).trans (HV.out 24 _ rfl h24_)
                  go_simp
                  refine (c5.out _ _ (oD.up 0)).mono ?_
                  rintro _ w3_ ⟨rfl, o3_, k3_⟩
                  exact hK.out (.bool zr) _ ⟨o3_.re [0], kD.trans k3_, HV.out.put 25 (fun _ h => some_eq h)⟩
                · have c16_ := hA.base 16 (by rfl)
                  simp only [List.getElem?_toArray, List.getElem?_cons_zero, List.getElem?_cons_succ, Option.getD_some] at c16_
                  have u0_ := (oD.up 1).cell 0
                  have u1_ := (oD.up 1).cell 1
                  have u2_ := (oD.up 1).cell 2
                  have u3_ := (oD.up 1).cell 3
                  have u4_ := (oD.up 1).cell 4
                  go_simp
                  exact hK.out (.agg #[.string QS, .int .i64 q1, .int .i64 q2, .int .i64 q3, .int .i64 q4]) _ ⟨oD, kD, HV.out.put 26 (fun _ h => some_eq h)⟩
                · have c5_ := hA.base 5 (by rfl)
                  simp only [List.getElem?_toArray, List.getElem?_cons_zero, List.getElem?_cons_succ, Option.getD_some] at c5_
                  have u0_ := (oD.up 5).cell 0
                  have u1_ := (oD.up 5).cell 1
                  have u2_ := (oD.up 5).cell 2
                  have u3_ := (oD.up 5).cell 3
                  have u4_ := (oD.up 5).cell 4
                  go_simp
                  exact hK.out (.agg #[.string BS, .int .i64 bc, .int .i64 bf, .int .i64 bl, .int .i64 bw]) _ ⟨oD, kD, HV.out.put 27 (fun _ h => some_eq h)⟩
                · have h26_ : L 26 = true := by simp [hd]
                  have c76_ : actZ.tmps[76]?.getD undef = .agg #[.string QS, .int .i64 q1, .int .i64 q2, .int .i64 q3, .int .i64 q4] := (hA.get 26 h26_).trans (HV.out 26 _ rfl h26_)
                  have h27_ : L 27 = true := by simp [hd]
                  have c77_ : actZ.tmps[77]?.getD undef = .agg #[.string BS, .int .i64 bc, .int .i64 bf, .int .i64 bl, .int .i64 bw] := (hA.get 27 h27_).trans (HV.out 27 _ rfl h27_)
                  go_simp
                  refine (c6.out _ _ (oD.up 0)).mono ?_
                  rintro _ w3_ ⟨rfl, o3_, k3_⟩
                  exact hK.out (.bool zr) _ ⟨o3_.re [0], kD.trans k3_, HV.out.put 28 (fun _ h => some_eq h)⟩
                · have h25_ : L 25 = true := by simp [hd]
                  have c75_ : actZ.tmps[75]?.getD undef = .bool zr := (hA.get 25 h25_).trans (HV.out 25 _ rfl h25_)
                  have h28_ : L 28 = true := by simp [hd]
                  have c78_ : actZ.tmps[78]?.getD undef = .bool zr := (hA.get 28 h28_).trans (HV.out 28 _ rfl h28_)
                  go_simp
                  exact hK.out (.bool false) _ ⟨oD, kD, HV.out.put 29 (fun _ h => some_eq h)⟩
                · have h22_ : L 22 = true := by simp [hd]
                  have c72_ : actZ.tmps[72]?.getD undef = .bool true := (hA.get 22 h22_).trans (HV.out 22 _ rfl h22_)
                  have h29_ : L 29 = true := by simp [hd]
                  have c79_ : actZ.tmps[79]?.getD undef = .bool false := (hA.get 29 h29_).trans (HV.out 29 _ rfl h29_)
                  go_simp
                  exact hK.out (.bool false) _ ⟨oD, kD, HV.out.put 30 (fun _ h => some_eq h)⟩
                · have h17_ : L 17 = true := by simp [hd]
                  have c67_ : actZ.tmps[67]?.getD undef = .bool false := (hA.get 17 h17_).trans (HV.out 17 _ rfl h17_)
                  have h30_ : L 30 = true := by simp [hd]
                  have c80_ : actZ.tmps[80]?.getD undef = .bool false := (hA.get 30 h30_).trans (HV.out 30 _ rfl h30_)
                  go_simp
                  exact hK.out (.bool false) _ ⟨oD, kD, HV.out.put 31 (fun _ h => some_eq h)⟩
              case fin =>
                rintro L v wc hall ⟨oD, kD, hv⟩
                have h_ := hv 31 _ rfl (hall 31 (by decide))
                clear hv hall
                simp only [putAll, Act.put, List.setIfInBounds_toArray, List.set_cons_zero, List.set_cons_succ]
                go_wp2
                go_meet
                first | exact ⟨rfl, oD, kD⟩ | exact ⟨h_, oD, kD⟩
            · have gb1 : decide ((BS.size : Int) < (60 : Int)) = false := decide_eq_false (by omega)
              clear c5 c6 hla hlb
              refine wp_region_draws (fun L v wc => Own wc (old w :: cel gq 24 [.string QS, .int .i64 q1, .int .i64 q2, .int .i64 q3, .int .i64 q4] :: cel gx 29 [.string XS, .int .i64 x1, .int .i64 x2, .int .i64 x3, .int .i64 x4] :: Ch w cb (36 * i + 1 + 6 * k0 + 5 + 6) :: slc 24 5 aa k0 c fl :: cel (g0 + 1) 29 [.string BS, .int .i64 bc, .int .i64 bf, .int .i64 bl, .int .i64 bw] :: cel g0 24 [.string AS, .int .i64 aq, .int .i64 af, .int .i64 al, .int .i64 ay] :: []) ∧ Calm w wc ∧ OVals (fun i => ([some (.int .i64 fv), some (.int .i64 fv), some (.bool false), some (.bool false), some (.bool fb), some (.bool fb), some (.bool false), some (.bool false), some (.bool false), some (.agg #[.string QS, .int .i64 q1, .int .i64 q2, .int .i64 q3, .int .i64 q4]), some (.agg #[.string XS, .int .i64 x1, .int .i64 x2, .int .i64 x3, .int .i64 x4]), some (.bool zq), some (.agg #[.string QS, .int .i64 q1, .int .i64 q2, .int .i64 q3, .int .i64 q4]), some (.agg #[.string XS, .int .i64 x1, .int .i64 x2, .int .i64 x3, .int .i64 x4]), some (.bool zq), some (.bool false), some (.bool false), some (.bool false), some (.pointer (some ⟨(g0 + 1), 0, none⟩)), some (.string BS), some (.int .i64 (BS.size : Int)), some (.bool false), some (.bool false), some (undef), some (undef), some (undef), some (undef), some (undef), some (undef), some (undef), some (.bool false), some (.bool false)] : List (Option Value)).getD i none) L v) (by kernel_rfl) (by kernel_rfl) (by kernel_rfl) ?h0 ?step ?fin
              case h0 => exact ⟨o8.drew, ⟨k8.os, k8.tape, k8.output⟩, OVals.no⟩
              case step =>
                refine ⟨DrawStep.mk rfl ?_, DrawStep.mk rfl ?_, DrawStep.mk rfl ?_, DrawStep.mk rfl ?_, DrawStep.run rfl rfl (by kernel_rfl) (fun L v w hI hl => hI.2.2 3 _ rfl hl) ?_, DrawStep.run rfl rfl (by kernel_rfl) (fun L v w hI hl => hI.2.2 3 _ rfl hl) ?_, DrawStep.run rfl rfl (by kernel_rfl) (fun L v w hI hl => hI.2.2 3 _ rfl hl) ?_, DrawStep.mk rfl ?_, DrawStep.mk rfl ?_, DrawStep.run rfl rfl (by kernel_rfl) (fun L v w hI hl => hI.2.2 8 _ rfl hl) ?_, DrawStep.run rfl rfl (by kernel_rfl) (fun L v w hI hl => hI.2.2 8 _ rfl hl) ?_, DrawStep.run rfl rfl (by kernel_rfl) (fun L v w hI hl => hI.2.2 8 _ rfl hl) ?_, DrawStep.run rfl rfl (by kernel_rfl) (fun L v w hI hl => hI.2.2 8 _ rfl hl) ?_, DrawStep.run rfl rfl (by kernel_rfl) (fun L v w hI hl => hI.2.2 8 _ rfl hl) ?_, DrawStep.run rfl rfl (by kernel_rfl) (fun L v w hI hl => hI.2.2 8 _ rfl hl) ?_, DrawStep.run rfl rfl (by kernel_rfl) (fun L v w hI hl => hI.2.2 8 _ rfl hl) ?_, DrawStep.mk rfl ?_, DrawStep.mk rfl ?_, DrawStep.run rfl rfl (by kernel_rfl) (fun L v w hI hl => hI.2.2 17 _ rfl hl) ?_, DrawStep.run rfl rfl (by kernel_rfl) (fun L v w hI hl => hI.2.2 17 _ rfl hl) ?_, DrawStep.run rfl rfl (by kernel_rfl) (fun L v w hI hl => hI.2.2 17 _ rfl hl) ?_, DrawStep.run rfl rfl (by kernel_rfl) (fun L v w hI hl => hI.2.2 17 _ rfl hl) ?_, DrawStep.run rfl rfl (by kernel_rfl) (fun L v w hI hl => hI.2.2 17 _ rfl hl) ?_, DrawStep.skip rfl rfl (by kernel_rfl) (fun L v w hI hl => hI.2.2 22 _ rfl hl) (fun L v w hL hI => ⟨hI.1, hI.2.1, hI.2.2.put 23 (fun _ h => some_eq h)⟩), DrawStep.skip rfl rfl (by kernel_rfl) (fun L v w hI hl => hI.2.2 22 _ rfl hl) (fun L v w hL hI => ⟨hI.1, hI.2.1, hI.2.2.put 24 (fun _ h => some_eq h)⟩), DrawStep.skip rfl rfl (by kernel_rfl) (fun L v w hI hl => hI.2.2 22 _ rfl hl) (fun L v w hL hI => ⟨hI.1, hI.2.1, hI.2.2.put 25 (fun _ h => some_eq h)⟩), DrawStep.skip rfl rfl (by kernel_rfl) (fun L v w hI hl => hI.2.2 22 _ rfl hl) (fun L v w hL hI => ⟨hI.1, hI.2.1, hI.2.2.put 26 (fun _ h => some_eq h)⟩), DrawStep.skip rfl rfl (by kernel_rfl) (fun L v w hI hl => hI.2.2 22 _ rfl hl) (fun L v w hL hI => ⟨hI.1, hI.2.1, hI.2.2.put 27 (fun _ h => some_eq h)⟩), DrawStep.skip rfl rfl (by kernel_rfl) (fun L v w hI hl => hI.2.2 22 _ rfl hl) (fun L v w hL hI => ⟨hI.1, hI.2.1, hI.2.2.put 28 (fun _ h => some_eq h)⟩), DrawStep.skip rfl rfl (by kernel_rfl) (fun L v w hI hl => hI.2.2 22 _ rfl hl) (fun L v w hL hI => ⟨hI.1, hI.2.1, hI.2.2.put 29 (fun _ h => some_eq h)⟩), DrawStep.run rfl rfl (by kernel_rfl) (fun L v w hI hl => hI.2.2 17 _ rfl hl) ?_, DrawStep.mk rfl ?_, trivial⟩
                all_goals intro L v actZ wc hL hd hA hI K' hK
                all_goals obtain ⟨oD, kD, hv⟩ := hI
                all_goals simp [Region.binds] at hd
                all_goals have HV := Lib.hid hv
                all_goals clear hv
                · have c12_ := hA.base 12 (by rfl)
                  simp only [List.getElem?_toArray, List.getElem?_cons_zero, List.getElem?_cons_succ, Option.getD_some] at c12_
                  go_simp
                  exact hK.out (.int .i64 fv) _ ⟨oD, kD, HV.out.put 0 (fun _ h => some_eq h)⟩
                · have c14_ := hA.base 14 (by rfl)
                  simp only [List.getElem?_toArray, List.getElem?_cons_zero, List.getElem?_cons_succ, Option.getD_some] at c14_
                  go_simp
                  exact hK.out (.int .i64 fv) _ ⟨oD, kD, HV.out.put 1 (fun _ h => some_eq h)⟩
                · have h0_ : L 0 = true := by simp [hd]
                  have c50_ : actZ.tmps[50]?.getD undef = .int .i64 fv := (hA.get 0 h0_).trans (HV.out 0 _ rfl h0_)
                  have h1_ : L 1 = true := by simp [hd]
                  have c51_ : actZ.tmps[51]?.getD undef = .int .i64 fv := (hA.get 1 h1_).trans (HV.out 1 _ rfl h1_)
                  go_simp
                  exact hK.out (.bool false) _ ⟨oD, kD, HV.out.put 2 (fun _ h => some_eq h)⟩
                · have h2_ : L 2 = true := by simp [hd]
                  have c52_ : actZ.tmps[52]?.getD undef = .bool false := (hA.get 2 h2_).trans (HV.out 2 _ rfl h2_)
                  go_simp
                  exact hK.out (.bool false) _ ⟨oD, kD, HV.out.put 3 (fun _ h => some_eq h)⟩
                · have c13_ := hA.base 13 (by rfl)
                  simp only [List.getElem?_toArray, List.getElem?_cons_zero, List.getElem?_cons_succ, Option.getD_some] at c13_
                  go_simp
                  exact hK.out (.bool fb) _ ⟨oD, kD, HV.out.put 4 (fun _ h => some_eq h)⟩
                · have c15_ := hA.base 15 (by rfl)
                  simp only [List.getElem?_toArray, List.getElem?_cons_zero, List.getElem?_cons_succ, Option.getD_some] at c15_
                  go_simp
                  exact hK.out (.bool fb) _ ⟨oD, kD, HV.out.put 5 (fun _ h => some_eq h)⟩
                · have h4_ : L 4 = true := by simp [hd]
                  have c54_ : actZ.tmps[54]?.getD undef = .bool fb := (hA.get 4 h4_).trans (HV.out 4 _ rfl h4_)
                  have h5_ : L 5 = true := by simp [hd]
                  have c55_ : actZ.tmps[55]?.getD undef = .bool fb := (hA.get 5 h5_).trans (HV.out 5 _ rfl h5_)
                  go_simp
                  exact hK.out (.bool false) _ ⟨oD, kD, HV.out.put 6 (fun _ h => some_eq h)⟩
                · have h3_ : L 3 = true := by simp [hd]
                  have c53_ : actZ.tmps[53]?.getD undef = .bool false := (hA.get 3 h3_).trans (HV.out 3 _ rfl h3_)
                  have h6_ : L 6 = true := by simp [hd]
                  have c56_ : actZ.tmps[56]?.getD undef = .bool false := (hA.get 6 h6_).trans (HV.out 6 _ rfl h6_)
                  go_simp
                  exact hK.out (.bool false) _ ⟨oD, kD, HV.out.put 7 (fun _ h => some_eq h)⟩
                · have h7_ : L 7 = true := by simp [hd]
                  have c57_ : actZ.tmps[57]?.getD undef = .bool false := (hA.get 7 h7_).trans (HV.out 7 _ rfl h7_)
                  go_simp
                  exact hK.out (.bool false) _ ⟨oD, kD, HV.out.put 8 (fun _ h => some_eq h)⟩
                · have c16_ := hA.base 16 (by rfl)
                  simp only [List.getElem?_toArray, List.getElem?_cons_zero, List.getElem?_cons_succ, Option.getD_some] at c16_
                  have u0_ := (oD.up 1).cell 0
                  have u1_ := (oD.up 1).cell 1
                  have u2_ := (oD.up 1).cell 2
                  have u3_ := (oD.up 1).cell 3
                  have u4_ := (oD.up 1).cell 4
                  go_simp
                  exact hK.out (.agg #[.string QS, .int .i64 q1, .int .i64 q2, .int .i64 q3, .int .i64 q4]) _ ⟨oD, kD, HV.out.put 9 (fun _ h => some_eq h)⟩
                · have c11_ := hA.base 11 (by rfl)
                  simp only [List.getElem?_toArray, List.getElem?_cons_zero, List.getElem?_cons_succ, Option.getD_some] at c11_
                  have u0_ := (oD.up 2).cell 0
                  have u1_ := (oD.up 2).cell 1
                  have u2_ := (oD.up 2).cell 2
                  have u3_ := (oD.up 2).cell 3
                  have u4_ := (oD.up 2).cell 4
                  go_simp
                  exact hK.out (.agg #[.string XS, .int .i64 x1, .int .i64 x2, .int .i64 x3, .int .i64 x4]) _ ⟨oD, kD, HV.out.put 10 (fun _ h => some_eq h)⟩
                · have h9_ : L 9 = true := by simp [hd]
                  have c59_ : actZ.tmps[59]?.getD undef = .agg #[.string QS, .int .i64 q1, .int .i64 q2, .int .i64 q3, .int .i64 q4] := (hA.get 9 h9_).trans (HV.out 9 _ rfl h9_)
                  have h10_ : L 10 = true := by simp [hd]
                  have c60_ : actZ.tmps[60]?.getD undef = .agg #[.string XS, .int .i64 x1, .int .i64 x2, .int .i64 x3, .int .i64 x4] := (hA.get 10 h10_).trans (HV.out 10 _ rfl h10_)
                  go_simp
                  refine (c3.out _ _ (oD.up 0)).mono ?_
                  rintro _ w3_ ⟨rfl, o3_, k3_⟩
                  exact hK.out (.bool zq) _ ⟨o3_.re [0], kD.trans k3_, HV.out.put 11 (fun _ h => some_eq h)⟩
                · have c16_ := hA.base 16 (by rfl)
                  simp only [List.getElem?_toArray, List.getElem?_cons_zero, List.getElem?_cons_succ, Option.getD_some] at c16_
                  have u0_ := (oD.up 1).cell 0
                  have u1_ := (oD.up 1).cell 1
                  have u2_ := (oD.up 1).cell 2
                  have u3_ := (oD.up 1).cell 3
                  have u4_ := (oD.up 1).cell 4
                  go_simp
                  exact hK.out (.agg #[.string QS, .int .i64 q1, .int .i64 q2, .int .i64 q3, .int .i64 q4]) _ ⟨oD, kD, HV.out.put 12 (fun _ h => some_eq h)⟩
                · have c11_ := hA.base 11 (by rfl)
                  simp only [List.getElem?_toArray, List.getElem?_cons_zero, List.getElem?_cons_succ, Option.getD_some] at c11_
                  have u0_ := (oD.up 2).cell 0
                  have u1_ := (oD.up 2).cell 1
                  have u2_ := (oD.up 2).cell 2
                  have u3_ := (oD.up 2).cell 3
                  have u4_ := (oD.up 2).cell 4
                  go_simp
                  exact hK.out (.agg #[.string XS, .int .i64 x1, .int .i64 x2, .int .i64 x3, .int .i64 x4]) _ ⟨oD, kD, HV.out.put 13 (fun _ h => some_eq h)⟩
                · have h12_ : L 12 = true := by simp [hd]
                  have c62_ : actZ.tmps[62]?.getD undef = .agg #[.string QS, .int .i64 q1, .int .i64 q2, .int .i64 q3, .int .i64 q4] := (hA.get 12 h12_).trans (HV.out 12 _ rfl h12_)
                  have h13_ : L 13 = true := by simp [hd]
                  have c63_ : actZ.tmps[63]?.getD undef = .agg #[.string XS, .int .i64 x1, .int .i64 x2, .int .i64 x3, .int .i64 x4] := (hA.get 13 h13_).trans (HV.out 13 _ rfl h13_)
                  go_simp
                  refine (c4.out _ _ (oD.up 0)).mono ?_
                  rintro _ w3_ ⟨rfl, o3_, k3_⟩
                  exact hK.out (.bool zq) _ ⟨o3_.re [0], kD.trans k3_, HV.out.put 14 (fun _ h => some_eq h)⟩
                · have h11_ : L 11 = true := by simp [hd]
                  have c61_ : actZ.tmps[61]?.getD undef = .bool zq := (hA.get 11 h11_).trans (HV.out 11 _ rfl h11_)
                  have h14_ : L 14 = true := by simp [hd]
                  have c64_ : actZ.tmps[64]?.getD undef = .bool zq := (hA.get 14 h14_).trans (HV.out 14 _ rfl h14_)
                  go_simp
                  exact hK.out (.bool false) _ ⟨oD, kD, HV.out.put 15 (fun _ h => some_eq h)⟩
                · have h8_ : L 8 = true := by simp [hd]
                  have c58_ : actZ.tmps[58]?.getD undef = .bool false := (hA.get 8 h8_).trans (HV.out 8 _ rfl h8_)
                  have h15_ : L 15 = true := by simp [hd]
                  have c65_ : actZ.tmps[65]?.getD undef = .bool false := (hA.get 15 h15_).trans (HV.out 15 _ rfl h15_)
                  go_simp
                  exact hK.out (.bool false) _ ⟨oD, kD, HV.out.put 16 (fun _ h => some_eq h)⟩
                · have h16_ : L 16 = true := by simp [hd]
                  have c66_ : actZ.tmps[66]?.getD undef = .bool false := (hA.get 16 h16_).trans (HV.out 16 _ rfl h16_)
                  go_simp
                  exact hK.out (.bool false) _ ⟨oD, kD, HV.out.put 17 (fun _ h => some_eq h)⟩
                · have c5_ := hA.base 5 (by rfl)
                  simp only [List.getElem?_toArray, List.getElem?_cons_zero, List.getElem?_cons_succ, Option.getD_some] at c5_
                  go_simp
                  exact hK.out (.pointer (some ⟨(g0 + 1), 0, none⟩)) _ ⟨oD, kD, HV.out.put 18 (fun _ h => some_eq h)⟩
                · have h18_ : L 18 = true := by simp [hd]
                  have c68_ : actZ.tmps[68]?.getD undef = .pointer (some ⟨(g0 + 1), 0, none⟩) := (hA.get 18 h18_).trans (HV.out 18 _ rfl h18_)
                  have u0_ := (oD.up 5).cell 0
                  have u1_ := (oD.up 5).cell 1
                  have u2_ := (oD.up 5).cell 2
                  have u3_ := (oD.up 5).cell 3
                  have u4_ := (oD.up 5).cell 4
                  go_simp
                  exact hK.out (.string BS) _ ⟨oD, kD, HV.out.put 19 (fun _ h => some_eq h)⟩
                · have h19_ : L 19 = true := by simp [hd]
                  have c69_ : actZ.tmps[69]?.getD undef = .string BS := (hA.get 19 h19_).trans (HV.out 19 _ rfl h19_)
                  go_simp
                  exact hK.out (.int .i64 (BS.size : Int)) _ ⟨oD, kD, HV.out.put 20 (fun _ h => some_eq h)⟩
                · have h20_ : L 20 = true := by simp [hd]
                  have c70_ : actZ.tmps[70]?.getD undef = .int .i64 (BS.size : Int) := (hA.get 20 h20_).trans (HV.out 20 _ rfl h20_)
                  go_simp
                  try simp only [gb1]
                  exact hK.out (.bool false) _ ⟨oD, kD, HV.out.put 21 (fun _ h => some_eq h)⟩
                · have h21_ : L 21 = true := by simp [hd]
                  have c71_ : actZ.tmps[71]?.getD undef = .bool false := (hA.get 21 h21_).trans (HV.out 21 _ rfl h21_)
                  go_simp
                  exact hK.out (.bool false) _ ⟨oD, kD, HV.out.put 22 (fun _ h => some_eq h)⟩
                · have h22_ : L 22 = true := by simp [hd]
                  have c72_ : actZ.tmps[72]?.getD undef = .bool false := (hA.get 22 h22_).trans (HV.out 22 _ rfl h22_)
                  have h29_ : L 29 = true := by simp [hd]
                  have c79_ : actZ.tmps[79]?.getD undef = undef := (hA.get 29 h29_).trans (HV.out 29 _ rfl h29_)
                  go_simp
                  exact hK.out (.bool false) _ ⟨oD, kD, HV.out.put 30 (fun _ h => some_eq h)⟩
                · have h17_ : L 17 = true := by simp [hd]
                  have c67_ : actZ.tmps[67]?.getD undef = .bool false := (hA.get 17 h17_).trans (HV.out 17 _ rfl h17_)
                  have h30_ : L 30 = true := by simp [hd]
                  have c80_ : actZ.tmps[80]?.getD undef = .bool false := (hA.get 30 h30_).trans (HV.out 30 _ rfl h30_)
                  go_simp
                  exact hK.out (.bool false) _ ⟨oD, kD, HV.out.put 31 (fun _ h => some_eq h)⟩
              case fin =>
                rintro L v wc hall ⟨oD, kD, hv⟩
                have h_ := hv 31 _ rfl (hall 31 (by decide))
                clear hv hall
                simp only [putAll, Act.put, List.setIfInBounds_toArray, List.set_cons_zero, List.set_cons_succ]
                go_wp2
                go_meet
                first | exact ⟨rfl, oD, kD⟩ | exact ⟨h_, oD, kD⟩
          case rest =>
          obtain ⟨rfl, o9, k9⟩ := hcut
          go_wp2
          go_roundw
          case rel => exact ⟨i + 1, by go_num, by omega, Ch.upTo (N := 36 * i + 1 + 6 * k0 + 5 + 6) (M := 36 * (i + 1)) (by omega) ((o9.re [1, 2, 4, 3, 0]).drop.drop.drop), k9⟩
          case measure => simp [viN]; omega
    · have dl : decide (i < 4) = false := decide_eq_false hlt
      clear PM RM PL RL pqb rqb
      have o5 := oR.re [1, 2, 3, 0]
      go_upto_region 16 with fail
      skip
      have ma : ¬ 60 < AS.size → ast.length ≤ 2000000 := fun h => by omega
      have mb : ¬ 60 < BS.size → bst.length ≤ 2000000 := fun h => by omega
      clear hla hlb
      by_cases ga : 60 < AS.size
      · have ga1 : decide ((60 : Int) < (AS.size : Int)) = true := decide_eq_true (by omega)
        clear pab rab
        refine wp_region_draws (fun L v wc => Own wc (old w :: cel (g0 + 1) 29 [.string BS, .int .i64 bc, .int .i64 bf, .int .i64 bl, .int .i64 bw] :: cel g0 24 [.string AS, .int .i64 aq, .int .i64 af, .int .i64 al, .int .i64 ay] :: Ch w cb (36 * i) :: []) ∧ Calm w wc ∧ OVals (fun i => ([some (.pointer (some ⟨g0, 0, none⟩)), some (.string AS), some (.int .i64 (AS.size : Int)), some (.bool true), some (.bool true), some (undef), some (undef), some (undef), some (undef), some (.bool true), some (.bool true), some (undef), some (undef), some (undef), some (undef), some (undef), some (undef), some (undef), some (undef), some (undef), some (undef), some (.bool true), some (.bool true)] : List (Option Value)).getD i none) L v) (by kernel_rfl) (by kernel_rfl) (by kernel_rfl) ?h0 ?step ?fin
        case h0 => exact ⟨o5.drew, ⟨kR.os, kR.tape, kR.output⟩, OVals.no⟩
        case step =>
          refine ⟨DrawStep.mk rfl ?_, DrawStep.mk rfl ?_, DrawStep.mk rfl ?_, DrawStep.mk rfl ?_, DrawStep.mk rfl ?_, DrawStep.skip rfl rfl (by kernel_rfl) (fun L v w hI hl => hI.2.2 4 _ rfl hl) (fun L v w hL hI => ⟨hI.1, hI.2.1, hI.2.2.put 5 (fun _ h => some_eq h)⟩), DrawStep.skip rfl rfl (by kernel_rfl) (fun L v w hI hl => hI.2.2 4 _ rfl hl) (fun L v w hL hI => ⟨hI.1, hI.2.1, hI.2.2.put 6 (fun _ h => some_eq h)⟩), DrawStep.skip rfl rfl (by kernel_rfl) (fun L v w hI hl => hI.2.2 4 _ rfl hl) (fun L v w hL hI => ⟨hI.1, hI.2.1, hI.2.2.put 7 (fun _ h => some_eq h)⟩), DrawStep.skip rfl rfl (by kernel_rfl) (fun L v w hI hl => hI.2.2 4 _ rfl hl) (fun L v w hL hI => ⟨hI.1, hI.2.1, hI.2.2.put 8 (fun _ h => some_eq h)⟩), DrawStep.mk rfl ?_, DrawStep.mk rfl ?_, DrawStep.skip rfl rfl (by kernel_rfl) (fun L v w hI hl => hI.2.2 10 _ rfl hl) (fun L v w hL hI => ⟨hI.1, hI.2.1, hI.2.2.put 11 (fun _ h => some_eq h)⟩), DrawStep.skip rfl rfl (by kernel_rfl) (fun L v w hI hl => hI.2.2 10 _ rfl hl) (fun L v w hL hI => ⟨hI.1, hI.2.1, hI.2.2.put 12 (fun _ h => some_eq h)⟩), DrawStep.skip rfl rfl (by kernel_rfl) (fun L v w hI hl => hI.2.2 10 _ rfl hl) (fun L v w hL hI => ⟨hI.1, hI.2.1, hI.2.2.put 13 (fun _ h => some_eq h)⟩), DrawStep.skip rfl rfl (by kernel_rfl) (fun L v w hI hl => hI.2.2 10 _ rfl hl) (fun L v w hL hI => ⟨hI.1, hI.2.1, hI.2.2.put 14 (fun _ h => some_eq h)⟩), DrawStep.skip rfl rfl (by kernel_rfl) (fun L v w hI hl => hI.2.2 10 _ rfl hl) (fun L v w hL hI => ⟨hI.1, hI.2.1, hI.2.2.put 15 (fun _ h => some_eq h)⟩), DrawStep.skip rfl rfl (by kernel_rfl) (fun L v w hI hl => hI.2.2 10 _ rfl hl) (fun L v w hL hI => ⟨hI.1, hI.2.1, hI.2.2.put 16 (fun _ h => some_eq h)⟩), DrawStep.skip rfl rfl (by kernel_rfl) (fun L v w hI hl => hI.2.2 10 _ rfl hl) (fun L v w hL hI => ⟨hI.1, hI.2.1, hI.2.2.put 17 (fun _ h => some_eq h)⟩), DrawStep.skip rfl rfl (by kernel_rfl) (fun L v w hI hl => hI.2.2 10 _ rfl hl) (fun L v w hL hI => ⟨hI.1, hI.2.1, hI.2.2.put 18 (fun _ h => some_eq h)⟩), DrawStep.skipU rfl rfl (by kernel_rfl) (fun L v w hI hl => hI.2.2 18 _ rfl hl) (fun L v w hL hI => ⟨hI.1, hI.2.1, hI.2.2.put 19 (fun _ h => some_eq h)⟩), DrawStep.skip rfl rfl (by kernel_rfl) (fun L v w hI hl => hI.2.2 10 _ rfl hl) (fun L v w hL hI => ⟨hI.1, hI.2.1, hI.2.2.put 20 (fun _ h => some_eq h)⟩), DrawStep.mk rfl ?_, DrawStep.mk rfl ?_, trivial⟩
          all_goals intro L v actZ wc hL hd hA hI K' hK
          all_goals obtain ⟨oD, kD, hv⟩ := hI
          all_goals simp [Region.binds] at hd
          all_goals have HV := Lib.hid hv
          all_goals clear hv
          · have c4_ := hA.base 4 (by rfl)
            simp only [List.getElem?_toArray, List.getElem?_cons_zero, List.getElem?_cons_succ, Option.getD_some] at c4_
            go_simp
            exact hK.out (.pointer (some ⟨g0, 0, none⟩)) _ ⟨oD, kD, HV.out.put 0 (fun _ h => some_eq h)⟩
          · have h0_ : L 0 = true := by simp [hd]
            have c82_ : actZ.tmps[82]?.getD undef = .pointer (some ⟨g0, 0, none⟩) := (hA.get 0 h0_).trans (HV.out 0 _ rfl h0_)
            have u0_ := (oD.up 2).cell 0
            have u1_ := (oD.up 2).cell 1
            have u2_ := (oD.up 2).cell 2
            have u3_ := (oD.up 2).cell 3
            have u4_ := (oD.up 2).cell 4
            go_simp
            exact hK.out (.string AS) _ ⟨oD, kD, HV.out.put 1 (fun _ h => some_eq h)⟩
          · have h1_ : L 1 = true := by simp [hd]
            have c83_ : actZ.tmps[83]?.getD undef = .string AS := (hA.get 1 h1_).trans (HV.out 1 _ rfl h1_)
            go_simp
            exact hK.out (.int .i64 (AS.size : Int)) _ ⟨oD, kD, HV.out.put 2 (fun _ h => some_eq h)⟩
          · have h2_ : L 2 = true := by simp [hd]
            have c84_ : actZ.tmps[84]?.getD undef = .int .i64 (AS.size : Int) := (hA.get 2 h2_).trans (HV.out 2 _ rfl h2_)
            go_simp
            try simp only [ga1]
            try simp only [gb1]
            exact hK.out (.bool true) _ ⟨oD, kD, HV.out.put 3 (fun _ h => some_eq h)⟩
          · have h3_ : L 3 = true := by simp [hd]
            have c85_ : actZ.tmps[85]?.getD undef = .bool true := (hA.get 3 h3_).trans (HV.out 3 _ rfl h3_)
            go_simp
            exact hK.out (.bool true) _ ⟨oD, kD, HV.out.put 4 (fun _ h => some_eq h)⟩
          · have h4_ : L 4 = true := by simp [hd]
            have c86_ : actZ.tmps[86]?.getD undef = .bool true := (hA.get 4 h4_).trans (HV.out 4 _ rfl h4_)
            have h8_ : L 8 = true := by simp [hd]
            have c90_ : actZ.tmps[90]?.getD undef = undef := (hA.get 8 h8_).trans (HV.out 8 _ rfl h8_)
            go_simp
            exact hK.out (.bool true) _ ⟨oD, kD, HV.out.put 9 (fun _ h => some_eq h)⟩
          · have h9_ : L 9 = true := by simp [hd]
            have c91_ : actZ.tmps[91]?.getD undef = .bool true := (hA.get 9 h9_).trans (HV.out 9 _ rfl h9_)
            go_simp
            exact hK.out (.bool true) _ ⟨oD, kD, HV.out.put 10 (fun _ h => some_eq h)⟩
          · have h10_ : L 10 = true := by simp [hd]
            have c92_ : actZ.tmps[92]?.getD undef = .bool true := (hA.get 10 h10_).trans (HV.out 10 _ rfl h10_)
            have h20_ : L 20 = true := by simp [hd]
            have c102_ : actZ.tmps[102]?.getD undef = undef := (hA.get 20 h20_).trans (HV.out 20 _ rfl h20_)
            go_simp
            exact hK.out (.bool true) _ ⟨oD, kD, HV.out.put 21 (fun _ h => some_eq h)⟩
          · have h21_ : L 21 = true := by simp [hd]
            have c103_ : actZ.tmps[103]?.getD undef = .bool true := (hA.get 21 h21_).trans (HV.out 21 _ rfl h21_)
            go_simp
            exact hK.out (.bool true) _ ⟨oD, kD, HV.out.put 22 (fun _ h => some_eq h)⟩
        case fin =>
          rintro L v wc hall ⟨oD, kD, hv⟩
          have h_ := hv 22 _ rfl (hall 22 (by decide))
          clear hv hall
          simp only [putAll, Act.put, List.setIfInBounds_toArray, List.set_cons_zero, List.set_cons_succ]
          go_wp2
          go_ret
          exact ⟨by first | rfl | exact congrArg _ h_, (oD.up 0).below kD⟩
      have ga1 : decide ((60 : Int) < (AS.size : Int)) = false := decide_eq_false (by omega)
      by_cases gb : 60 < BS.size
      · have gb1 : decide ((60 : Int) < (BS.size : Int)) = true := decide_eq_true (by omega)
        clear pab rab
        refine wp_region_draws (fun L v wc => Own wc (old w :: cel (g0 + 1) 29 [.string BS, .int .i64 bc, .int .i64 bf, .int .i64 bl, .int .i64 bw] :: cel g0 24 [.string AS, .int .i64 aq, .int .i64 af, .int .i64 al, .int .i64 ay] :: Ch w cb (36 * i) :: []) ∧ Calm w wc ∧ OVals (fun i => ([some (.pointer (some ⟨g0, 0, none⟩)), some (.string AS), some (.int .i64 (AS.size : Int)), some (.bool false), some (.bool false), some (.pointer (some ⟨(g0 + 1), 0, none⟩)), some (.string BS), some (.int .i64 (BS.size : Int)), some (.bool true), some (.bool true), some (.bool true), some (undef), some (undef), some (undef), some (undef), some (undef), some (undef), some (undef), some (undef), some (undef), some (undef), some (.bool true), some (.bool true)] : List (Option Value)).getD i none) L v) (by kernel_rfl) (by kernel_rfl) (by kernel_rfl) ?h0 ?step ?fin
        case h0 => exact ⟨o5.drew, ⟨kR.os, kR.tape, kR.output⟩, OVals.no⟩
        case step =>
          refine ⟨DrawStep.mk rfl ?_, DrawStep.mk rfl ?_, DrawStep.mk rfl ?_, DrawStep.mk rfl ?_, DrawStep.mk rfl ?_, DrawStep.run rfl rfl (by kernel_rfl) (fun L v w hI hl => hI.2.2 4 _ rfl hl) ?_, DrawStep.run rfl rfl (by kernel_rfl) (fun L v w hI hl => hI.2.2 4 _ rfl hl) ?_, DrawStep.run rfl rfl (by kernel_rfl) (fun L v w hI hl => hI.2.2 4 _ rfl hl) ?_, DrawStep.run rfl rfl (by kernel_rfl) (fun L v w hI hl => hI.2.2 4 _ rfl hl) ?_, DrawStep.mk rfl ?_, DrawStep.mk rfl ?_, DrawStep.skip rfl rfl (by kernel_rfl) (fun L v w hI hl => hI.2.2 10 _ rfl hl) (fun L v w hL hI => ⟨hI.1, hI.2.1, hI.2.2.put 11 (fun _ h => some_eq h)⟩), DrawStep.skip rfl rfl (by kernel_rfl) (fun L v w hI hl => hI.2.2 10 _ rfl hl) (fun L v w hL hI => ⟨hI.1, hI.2.1, hI.2.2.put 12 (fun _ h => some_eq h)⟩), DrawStep.skip rfl rfl (by kernel_rfl) (fun L v w hI hl => hI.2.2 10 _ rfl hl) (fun L v w hL hI => ⟨hI.1, hI.2.1, hI.2.2.put 13 (fun _ h => some_eq h)⟩), DrawStep.skip rfl rfl (by kernel_rfl) (fun L v w hI hl => hI.2.2 10 _ rfl hl) (fun L v w hL hI => ⟨hI.1, hI.2.1, hI.2.2.put 14 (fun _ h => some_eq h)⟩), DrawStep.skip rfl rfl (by kernel_rfl) (fun L v w hI hl => hI.2.2 10 _ rfl hl) (fun L v w hL hI => ⟨hI.1, hI.2.1, hI.2.2.put 15 (fun _ h => some_eq h)⟩), DrawStep.skip rfl rfl (by kernel_rfl) (fun L v w hI hl => hI.2.2 10 _ rfl hl) (fun L v w hL hI => ⟨hI.1, hI.2.1, hI.2.2.put 16 (fun _ h => some_eq h)⟩), DrawStep.skip rfl rfl (by kernel_rfl) (fun L v w hI hl => hI.2.2 10 _ rfl hl) (fun L v w hL hI => ⟨hI.1, hI.2.1, hI.2.2.put 17 (fun _ h => some_eq h)⟩), DrawStep.skip rfl rfl (by kernel_rfl) (fun L v w hI hl => hI.2.2 10 _ rfl hl) (fun L v w hL hI => ⟨hI.1, hI.2.1, hI.2.2.put 18 (fun _ h => some_eq h)⟩), DrawStep.skipU rfl rfl (by kernel_rfl) (fun L v w hI hl => hI.2.2 18 _ rfl hl) (fun L v w hL hI => ⟨hI.1, hI.2.1, hI.2.2.put 19 (fun _ h => some_eq h)⟩), DrawStep.skip rfl rfl (by kernel_rfl) (fun L v w hI hl => hI.2.2 10 _ rfl hl) (fun L v w hL hI => ⟨hI.1, hI.2.1, hI.2.2.put 20 (fun _ h => some_eq h)⟩), DrawStep.mk rfl ?_, DrawStep.mk rfl ?_, trivial⟩
          all_goals intro L v actZ wc hL hd hA hI K' hK
          all_goals obtain ⟨oD, kD, hv⟩ := hI
          all_goals simp [Region.binds] at hd
          all_goals have HV := Lib.hid hv
          all_goals clear hv
          · have c4_ := hA.base 4 (by rfl)
            simp only [List.getElem?_toArray, List.getElem?_cons_zero, List.getElem?_cons_succ, Option.getD_some] at c4_
            go_simp
            exact hK.out (.pointer (some ⟨g0, 0, none⟩)) _ ⟨oD, kD, HV.out.put 0 (fun _ h => some_eq h)⟩
          · have h0_ : L 0 = true := by simp [hd]
            have c82_ : actZ.tmps[82]?.getD undef = .pointer (some ⟨g0, 0, none⟩) := (hA.get 0 h0_).trans (HV.out 0 _ rfl h0_)
            have u0_ := (oD.up 2).cell 0
            have u1_ := (oD.up 2).cell 1
            have u2_ := (oD.up 2).cell 2
            have u3_ := (oD.up 2).cell 3
            have u4_ := (oD.up 2).cell 4
            go_simp
            exact hK.out (.string AS) _ ⟨oD, kD, HV.out.put 1 (fun _ h => some_eq h)⟩
          · have h1_ : L 1 = true := by simp [hd]
            have c83_ : actZ.tmps[83]?.getD undef = .string AS := (hA.get 1 h1_).trans (HV.out 1 _ rfl h1_)
            go_simp
            exact hK.out (.int .i64 (AS.size : Int)) _ ⟨oD, kD, HV.out.put 2 (fun _ h => some_eq h)⟩
          · have h2_ : L 2 = true := by simp [hd]
            have c84_ : actZ.tmps[84]?.getD undef = .int .i64 (AS.size : Int) := (hA.get 2 h2_).trans (HV.out 2 _ rfl h2_)
            go_simp
            try simp only [ga1]
            try simp only [gb1]
            exact hK.out (.bool false) _ ⟨oD, kD, HV.out.put 3 (fun _ h => some_eq h)⟩
          · have h3_ : L 3 = true := by simp [hd]
            have c85_ : actZ.tmps[85]?.getD undef = .bool false := (hA.get 3 h3_).trans (HV.out 3 _ rfl h3_)
            go_simp
            exact hK.out (.bool false) _ ⟨oD, kD, HV.out.put 4 (fun _ h => some_eq h)⟩
          · have c5_ := hA.base 5 (by rfl)
            simp only [List.getElem?_toArray, List.getElem?_cons_zero, List.getElem?_cons_succ, Option.getD_some] at c5_
            go_simp
            exact hK.out (.pointer (some ⟨(g0 + 1), 0, none⟩)) _ ⟨oD, kD, HV.out.put 5 (fun _ h => some_eq h)⟩
          · have h5_ : L 5 = true := by simp [hd]
            have c87_ : actZ.tmps[87]?.getD undef = .pointer (some ⟨(g0 + 1), 0, none⟩) := (hA.get 5 h5_).trans (HV.out 5 _ rfl h5_)
            have u0_ := (oD.up 1).cell 0
            have u1_ := (oD.up 1).cell 1
            have u2_ := (oD.up 1).cell 2
            have u3_ := (oD.up 1).cell 3
            have u4_ := (oD.up 1).cell 4
            go_simp
            exact hK.out (.string BS) _ ⟨oD, kD, HV.out.put 6 (fun _ h => some_eq h)⟩
          · have h6_ : L 6 = true := by simp [hd]
            have c88_ : actZ.tmps[88]?.getD undef = .string BS := (hA.get 6 h6_).trans (HV.out 6 _ rfl h6_)
            go_simp
            exact hK.out (.int .i64 (BS.size : Int)) _ ⟨oD, kD, HV.out.put 7 (fun _ h => some_eq h)⟩
          · have h7_ : L 7 = true := by simp [hd]
            have c89_ : actZ.tmps[89]?.getD undef = .int .i64 (BS.size : Int) := (hA.get 7 h7_).trans (HV.out 7 _ rfl h7_)
            go_simp
            try simp only [ga1]
            try simp only [gb1]
            exact hK.out (.bool true) _ ⟨oD, kD, HV.out.put 8 (fun _ h => some_eq h)⟩
          · have h4_ : L 4 = true := by simp [hd]
            have c86_ : actZ.tmps[86]?.getD undef = .bool false := (hA.get 4 h4_).trans (HV.out 4 _ rfl h4_)
            have h8_ : L 8 = true := by simp [hd]
            have c90_ : actZ.tmps[90]?.getD undef = .bool true := (hA.get 8 h8_).trans (HV.out 8 _ rfl h8_)
            go_simp
            exact hK.out (.bool true) _ ⟨oD, kD, HV.out.put 9 (fun _ h => some_eq h)⟩
          · have h9_ : L 9 = true := by simp [hd]
            have c91_ : actZ.tmps[91]?.getD undef = .bool true := (hA.get 9 h9_).trans (HV.out 9 _ rfl h9_)
            go_simp
            exact hK.out (.bool true) _ ⟨oD, kD, HV.out.put 10 (fun _ h => some_eq h)⟩
          · have h10_ : L 10 = true := by simp [hd]
            have c92_ : actZ.tmps[92]?.getD undef = .bool true := (hA.get 10 h10_).trans (HV.out 10 _ rfl h10_)
            have h20_ : L 20 = true := by simp [hd]
            have c102_ : actZ.tmps[102]?.getD undef = undef := (hA.get 20 h20_).trans (HV.out 20 _ rfl h20_)
            go_simp
            exact hK.out (.bool true) _ ⟨oD, kD, HV.out.put 21 (fun _ h => some_eq h)⟩
          · have h21_ : L 21 = true := by simp [hd]
            have c103_ : actZ.tmps[103]?.getD undef = .bool true := (hA.get 21 h21_).trans (HV.out 21 _ rfl h21_)
            go_simp
            exact hK.out (.bool true) _ ⟨oD, kD, HV.out.put 22 (fun _ h => some_eq h)⟩
        case fin =>
          rintro L v wc hall ⟨oD, kD, hv⟩
          have h_ := hv 22 _ rfl (hall 22 (by decide))
          clear hv hall
          simp only [putAll, Act.put, List.setIfInBounds_toArray, List.set_cons_zero, List.set_cons_succ]
          go_wp2
          go_ret
          exact ⟨by first | rfl | exact congrArg _ h_, (oD.up 0).below kD⟩
      have gb1 : decide ((60 : Int) < (BS.size : Int)) = false := decide_eq_false (by omega)
      have qa := Lib.hid (pab.out (ma ga) (mb gb))
      have qb := Lib.hid (rab.out (ma ga) (mb gb))
      clear pab rab ma mb
      cases zab with
      | false =>
        refine wp_region_draws (fun L v wc => Own wc (old w :: cel (g0 + 1) 29 [.string BS, .int .i64 bc, .int .i64 bf, .int .i64 bl, .int .i64 bw] :: cel g0 24 [.string AS, .int .i64 aq, .int .i64 af, .int .i64 al, .int .i64 ay] :: Ch w cb (36 * i) :: []) ∧ Calm w wc ∧ OVals (fun i => ([some (.pointer (some ⟨g0, 0, none⟩)), some (.string AS), some (.int .i64 (AS.size : Int)), some (.bool false), some (.bool false), some (.pointer (some ⟨(g0 + 1), 0, none⟩)), some (.string BS), some (.int .i64 (BS.size : Int)), some (.bool false), some (.bool false), some (.bool false), some (.agg #[.string AS, .int .i64 aq, .int .i64 af, .int .i64 al, .int .i64 ay]), some (.agg #[.string BS, .int .i64 bc, .int .i64 bf, .int .i64 bl, .int .i64 bw]), some (.bool false), some (.agg #[.string AS, .int .i64 aq, .int .i64 af, .int .i64 al, .int .i64 ay]), some (.agg #[.string BS, .int .i64 bc, .int .i64 bf, .int .i64 bl, .int .i64 bw]), some (.bool false), some (.bool true), some (.bool true), some (.bool true), some (.bool true), some (.bool true), some (.bool true)] : List (Option Value)).getD i none) L v) (by kernel_rfl) (by kernel_rfl) (by kernel_rfl) ?h0 ?step ?fin
        case h0 => exact ⟨o5.drew, ⟨kR.os, kR.tape, kR.output⟩, OVals.no⟩
        case step =>
          refine ⟨DrawStep.mk rfl ?_, DrawStep.mk rfl ?_, DrawStep.mk rfl ?_, DrawStep.mk rfl ?_, DrawStep.mk rfl ?_, DrawStep.run rfl rfl (by kernel_rfl) (fun L v w hI hl => hI.2.2 4 _ rfl hl) ?_, DrawStep.run rfl rfl (by kernel_rfl) (fun L v w hI hl => hI.2.2 4 _ rfl hl) ?_, DrawStep.run rfl rfl (by kernel_rfl) (fun L v w hI hl => hI.2.2 4 _ rfl hl) ?_, DrawStep.run rfl rfl (by kernel_rfl) (fun L v w hI hl => hI.2.2 4 _ rfl hl) ?_, DrawStep.mk rfl ?_, DrawStep.mk rfl ?_, DrawStep.run rfl rfl (by kernel_rfl) (fun L v w hI hl => hI.2.2 10 _ rfl hl) ?_, DrawStep.run rfl rfl (by kernel_rfl) (fun L v w hI hl => hI.2.2 10 _ rfl hl) ?_, DrawStep.run rfl rfl (by kernel_rfl) (fun L v w hI hl => hI.2.2 10 _ rfl hl) ?_, DrawStep.run rfl rfl (by kernel_rfl) (fun L v w hI hl => hI.2.2 10 _ rfl hl) ?_, DrawStep.run rfl rfl (by kernel_rfl) (fun L v w hI hl => hI.2.2 10 _ rfl hl) ?_, DrawStep.run rfl rfl (by kernel_rfl) (fun L v w hI hl => hI.2.2 10 _ rfl hl) ?_, DrawStep.run rfl rfl (by kernel_rfl) (fun L v w hI hl => hI.2.2 10 _ rfl hl) ?_, DrawStep.run rfl rfl (by kernel_rfl) (fun L v w hI hl => hI.2.2 10 _ rfl hl) ?_, DrawStep.run rfl rfl (by kernel_rfl) (fun L v w hI hl => hI.2.2 18 _ rfl hl) ?_, DrawStep.run rfl rfl (by kernel_rfl) (fun L v w hI hl => hI.2.2 10 _ rfl hl) ?_, DrawStep.mk rfl ?_, DrawStep.mk rfl ?_, trivial⟩
          all_goals intro L v actZ wc hL hd hA hI K' hK
          all_goals obtain ⟨oD, kD, hv⟩ := hI
          all_goals simp [Region.binds] at hd
          all_goals have HV := Lib.hid hv
          all_goals clear hv
          · have c4_ := hA.base 4 (by rfl)
            simp only [List.getElem?_toArray, List.getElem?_cons_zero, List.getElem?_cons_succ, Option.getD_some] at c4_
            go_simp
            exact hK.out (.pointer (some ⟨g0, 0, none⟩)) _ ⟨oD, kD, HV.out.put 0 (fun _ h => some_eq h)⟩
          · have h0_ : L 0 = true := by simp [hd]
            have c82_ : actZ.tmps[82]?.getD undef = .pointer (some ⟨g0, 0, none⟩) := (hA.get 0 h0_).trans (HV.out 0 _ rfl h0_)
            have u0_ := (oD.up 2).cell 0
            have u1_ := (oD.up 2).cell 1
            have u2_ := (oD.up 2).cell 2
            have u3_ := (oD.up 2).cell 3
            have u4_ := (oD.up 2).cell 4
            go_simp
            exact hK.out (.string AS) _ ⟨oD, kD, HV.out.put 1 (fun _ h => some_eq h)⟩
          · have h1_ : L 1 = true := by simp [hd]
            have c83_ : actZ.tmps[83]?.getD undef = .string AS := (hA.get 1 h1_).trans (HV.out 1 _ rfl h1_)
            go_simp
            exact hK.out (.int .i64 (AS.size : Int)) _ ⟨oD, kD, HV.out.put 2 (fun _ h => some_eq h)⟩
          · have h2_ : L 2 = true := by simp [hd]
            have c84_ : actZ.tmps[84]?.getD undef = .int .i64 (AS.size : Int) := (hA.get 2 h2_).trans (HV.out 2 _ rfl h2_)
            go_simp
            try simp only [ga1]
            try simp only [gb1]
            exact hK.out (.bool false) _ ⟨oD, kD, HV.out.put 3 (fun _ h => some_eq h)⟩
          · have h3_ : L 3 = true := by simp [hd]
            have c85_ : actZ.tmps[85]?.getD undef = .bool false := (hA.get 3 h3_).trans (HV.out 3 _ rfl h3_)
            go_simp
            exact hK.out (.bool false) _ ⟨oD, kD, HV.out.put 4 (fun _ h => some_eq h)⟩
          · have c5_ := hA.base 5 (by rfl)
            simp only [List.getElem?_toArray, List.getElem?_cons_zero, List.getElem?_cons_succ, Option.getD_some] at c5_
            go_simp
            exact hK.out (.pointer (some ⟨(g0 + 1), 0, none⟩)) _ ⟨oD, kD, HV.out.put 5 (fun _ h => some_eq h)⟩
          · have h5_ : L 5 = true := by simp [hd]
            have c87_ : actZ.tmps[87]?.getD undef = .pointer (some ⟨(g0 + 1), 0, none⟩) := (hA.get 5 h5_).trans (HV.out 5 _ rfl h5_)
            have u0_ := (oD.up 1).cell 0
            have u1_ := (oD.up 1).cell 1
            have u2_ := (oD.up 1).cell 2
            have u3_ := (oD.up 1).cell 3
            have u4_ := (oD.up 1).cell 4
            go_simp
            exact hK.out (.string BS) _ ⟨oD, kD, HV.out.put 6 (fun _ h => some_eq h)⟩
          · have h6_ : L 6 = true := by simp [hd]
            have c88_ : actZ.tmps[88]?.getD undef = .string BS := (hA.get 6 h6_).trans (HV.out 6 _ rfl h6_)
            go_simp
            exact hK.out (.int .i64 (BS.size : Int)) _ ⟨oD, kD, HV.out.put 7 (fun _ h => some_eq h)⟩
          · have h7_ : L 7 = true := by simp [hd]
            have c89_ : actZ.tmps[89]?.getD undef = .int .i64 (BS.size : Int) := (hA.get 7 h7_).trans (HV.out 7 _ rfl h7_)
            go_simp
            try simp only [ga1]
            try simp only [gb1]
            exact hK.out (.bool false) _ ⟨oD, kD, HV.out.put 8 (fun _ h => some_eq h)⟩
          · have h4_ : L 4 = true := by simp [hd]
            have c86_ : actZ.tmps[86]?.getD undef = .bool false := (hA.get 4 h4_).trans (HV.out 4 _ rfl h4_)
            have h8_ : L 8 = true := by simp [hd]
            have c90_ : actZ.tmps[90]?.getD undef = .bool false := (hA.get 8 h8_).trans (HV.out 8 _ rfl h8_)
            go_simp
            exact hK.out (.bool false) _ ⟨oD, kD, HV.out.put 9 (fun _ h => some_eq h)⟩
          · have h9_ : L 9 = true := by simp [hd]
            have c91_ : actZ.tmps[91]?.getD undef = .bool false := (hA.get 9 h9_).trans (HV.out 9 _ rfl h9_)
            go_simp
            exact hK.out (.bool false) _ ⟨oD, kD, HV.out.put 10 (fun _ h => some_eq h)⟩
          · have c4_ := hA.base 4 (by rfl)
            simp only [List.getElem?_toArray, List.getElem?_cons_zero, List.getElem?_cons_succ, Option.getD_some] at c4_
            have u0_ := (oD.up 2).cell 0
            have u1_ := (oD.up 2).cell 1
            have u2_ := (oD.up 2).cell 2
            have u3_ := (oD.up 2).cell 3
            have u4_ := (oD.up 2).cell 4
            go_simp
            exact hK.out (.agg #[.string AS, .int .i64 aq, .int .i64 af, .int .i64 al, .int .i64 ay]) _ ⟨oD, kD, HV.out.put 11 (fun _ h => some_eq h)⟩
          · have c5_ := hA.base 5 (by rfl)
            simp only [List.getElem?_toArray, List.getElem?_cons_zero, List.getElem?_cons_succ, Option.getD_some] at c5_
            have u0_ := (oD.up 1).cell 0
            have u1_ := (oD.up 1).cell 1
            have u2_ := (oD.up 1).cell 2
            have u3_ := (oD.up 1).cell 3
            have u4_ := (oD.up 1).cell 4
            go_simp
            exact hK.out (.agg #[.string BS, .int .i64 bc, .int .i64 bf, .int .i64 bl, .int .i64 bw]) _ ⟨oD, kD, HV.out.put 12 (fun _ h => some_eq h)⟩
          · have h11_ : L 11 = true := by simp [hd]
            have c93_ : actZ.tmps[93]?.getD undef = .agg #[.string AS, .int .i64 aq, .int .i64 af, .int .i64 al, .int .i64 ay] := (hA.get 11 h11_).trans (HV.out 11 _ rfl h11_)
            have h12_ : L 12 = true := by simp [hd]
            have c94_ : actZ.tmps[94]?.getD undef = .agg #[.string BS, .int .i64 bc, .int .i64 bf, .int .i64 bl, .int .i64 bw] := (hA.get 12 h12_).trans (HV.out 12 _ rfl h12_)
            go_simp
            refine (qa.out _ _ (oD.up 0)).mono ?_
            rintro _ w3_ ⟨rfl, o3_, k3_⟩
            exact hK.out (.bool false) _ ⟨o3_.re [0], kD.trans k3_, HV.out.put 13 (fun _ h => some_eq h)⟩
          · have c4_ := hA.base 4 (by rfl)
            simp only [List.getElem?_toArray, List.getElem?_cons_zero, List.getElem?_cons_succ, Option.getD_some] at c4_
            have u0_ := (oD.up 2).cell 0
            have u1_ := (oD.up 2).cell 1
            have u2_ := (oD.up 2).cell 2
            have u3_ := (oD.up 2).cell 3
            have u4_ := (oD.up 2).cell 4
            go_simp
            exact hK.out (.agg #[.string AS, .int .i64 aq, .int .i64 af, .int .i64 al, .int .i64 ay]) _ ⟨oD, kD, HV.out.put 14 (fun _ h => some_eq h)⟩
          · have c5_ := hA.base 5 (by rfl)
            simp only [List.getElem?_toArray, List.getElem?_cons_zero, List.getElem?_cons_succ, Option.getD_some] at c5_
            have u0_ := (oD.up 1).cell 0
            have u1_ := (oD.up 1).cell 1
            have u2_ := (oD.up 1).cell 2
            have u3_ := (oD.up 1).cell 3
            have u4_ := (oD.up 1).cell 4
            go_simp
            exact hK.out (.agg #[.string BS, .int .i64 bc, .int .i64 bf, .int .i64 bl, .int .i64 bw]) _ ⟨oD, kD, HV.out.put 15 (fun _ h => some_eq h)⟩
          · have h14_ : L 14 = true := by simp [hd]
            have c96_ : actZ.tmps[96]?.getD undef = .agg #[.string AS, .int .i64 aq, .int .i64 af, .int .i64 al, .int .i64 ay] := (hA.get 14 h14_).trans (HV.out 14 _ rfl h14_)
            have h15_ : L 15 = true := by simp [hd]
            have c97_ : actZ.tmps[97]?.getD undef = .agg #[.string BS, .int .i64 bc, .int .i64 bf, .int .i64 bl, .int .i64 bw] := (hA.get 15 h15_).trans (HV.out 15 _ rfl h15_)
            go_simp
            refine (qb.out _ _ (oD.up 0)).mono ?_
            rintro _ w3_ ⟨rfl, o3_, k3_⟩
            exact hK.out (.bool false) _ ⟨o3_.re [0], kD.trans k3_, HV.out.put 16 (fun _ h => some_eq h)⟩
          · have h13_ : L 13 = true := by simp [hd]
            have c95_ : actZ.tmps[95]?.getD undef = .bool false := (hA.get 13 h13_).trans (HV.out 13 _ rfl h13_)
            have h16_ : L 16 = true := by simp [hd]
            have c98_ : actZ.tmps[98]?.getD undef = .bool false := (hA.get 16 h16_).trans (HV.out 16 _ rfl h16_)
            go_simp
            exact hK.out (.bool true) _ ⟨oD, kD, HV.out.put 17 (fun _ h => some_eq h)⟩
          · have h17_ : L 17 = true := by simp [hd]
            have c99_ : actZ.tmps[99]?.getD undef = .bool true := (hA.get 17 h17_).trans (HV.out 17 _ rfl h17_)
            go_simp
            exact hK.out (.bool true) _ ⟨oD, kD, HV.out.put 18 (fun _ h => some_eq h)⟩
          · go_simp
            refine (HA.out _ _ (oD.up 0)).mono ?_
            rintro _ w3_ ⟨rfl, o3_, k3_⟩
            exact hK.out (.bool true) _ ⟨o3_.re [0], kD.trans k3_, HV.out.put 19 (fun _ h => some_eq h)⟩
          · have h18_ : L 18 = true := by simp [hd]
            have c100_ : actZ.tmps[100]?.getD undef = .bool true := (hA.get 18 h18_).trans (HV.out 18 _ rfl h18_)
            have h19_ : L 19 = true := by simp [hd]
            have c101_ : actZ.tmps[101]?.getD undef = .bool true := (hA.get 19 h19_).trans (HV.out 19 _ rfl h19_)
            go_simp
            exact hK.out (.bool true) _ ⟨oD, kD, HV.out.put 20 (fun _ h => some_eq h)⟩
          · have h10_ : L 10 = true := by simp [hd]
            have c92_ : actZ.tmps[92]?.getD undef = .bool false := (hA.get 10 h10_).trans (HV.out 10 _ rfl h10_)
            have h20_ : L 20 = true := by simp [hd]
            have c102_ : actZ.tmps[102]?.getD undef = .bool true := (hA.get 20 h20_).trans (HV.out 20 _ rfl h20_)
            go_simp
            exact hK.out (.bool true) _ ⟨oD, kD, HV.out.put 21 (fun _ h => some_eq h)⟩
          · have h21_ : L 21 = true := by simp [hd]
            have c103_ : actZ.tmps[103]?.getD undef = .bool true := (hA.get 21 h21_).trans (HV.out 21 _ rfl h21_)
            go_simp
            exact hK.out (.bool true) _ ⟨oD, kD, HV.out.put 22 (fun _ h => some_eq h)⟩
        case fin =>
          rintro L v wc hall ⟨oD, kD, hv⟩
          have h_ := hv 22 _ rfl (hall 22 (by decide))
          clear hv hall
          simp only [putAll, Act.put, List.setIfInBounds_toArray, List.set_cons_zero, List.set_cons_succ]
          go_wp2
          go_ret
          exact ⟨by first | rfl | exact congrArg _ h_, (oD.up 0).below kD⟩
      | true =>
        refine wp_region_draws (fun L v wc => Own wc (old w :: cel (g0 + 1) 29 [.string BS, .int .i64 bc, .int .i64 bf, .int .i64 bl, .int .i64 bw] :: cel g0 24 [.string AS, .int .i64 aq, .int .i64 af, .int .i64 al, .int .i64 ay] :: Ch w cb (36 * i) :: []) ∧ Calm w wc ∧ OVals (fun i => ([some (.pointer (some ⟨g0, 0, none⟩)), some (.string AS), some (.int .i64 (AS.size : Int)), some (.bool false), some (.bool false), some (.pointer (some ⟨(g0 + 1), 0, none⟩)), some (.string BS), some (.int .i64 (BS.size : Int)), some (.bool false), some (.bool false), some (.bool false), some (.agg #[.string AS, .int .i64 aq, .int .i64 af, .int .i64 al, .int .i64 ay]), some (.agg #[.string BS, .int .i64 bc, .int .i64 bf, .int .i64 bl, .int .i64 bw]), some (.bool true), some (.agg #[.string AS, .int .i64 aq, .int .i64 af, .int .i64 al, .int .i64 ay]), some (.agg #[.string BS, .int .i64 bc, .int .i64 bf, .int .i64 bl, .int .i64 bw]), some (.bool true), some (.bool true), some (.bool true), some (.bool true), some (.bool true), some (.bool true), some (.bool true)] : List (Option Value)).getD i none) L v) (by kernel_rfl) (by kernel_rfl) (by kernel_rfl) ?h0 ?step ?fin
        case h0 => exact ⟨o5.drew, ⟨kR.os, kR.tape, kR.output⟩, OVals.no⟩
        case step =>
          refine ⟨DrawStep.mk rfl ?_, DrawStep.mk rfl ?_, DrawStep.mk rfl ?_, DrawStep.mk rfl ?_, DrawStep.mk rfl ?_, DrawStep.run rfl rfl (by kernel_rfl) (fun L v w hI hl => hI.2.2 4 _ rfl hl) ?_, DrawStep.run rfl rfl (by kernel_rfl) (fun L v w hI hl => hI.2.2 4 _ rfl hl) ?_, DrawStep.run rfl rfl (by kernel_rfl) (fun L v w hI hl => hI.2.2 4 _ rfl hl) ?_, DrawStep.run rfl rfl (by kernel_rfl) (fun L v w hI hl => hI.2.2 4 _ rfl hl) ?_, DrawStep.mk rfl ?_, DrawStep.mk rfl ?_, DrawStep.run rfl rfl (by kernel_rfl) (fun L v w hI hl => hI.2.2 10 _ rfl hl) ?_, DrawStep.run rfl rfl (by kernel_rfl) (fun L v w hI hl => hI.2.2 10 _ rfl hl) ?_, DrawStep.run rfl rfl (by kernel_rfl) (fun L v w hI hl => hI.2.2 10 _ rfl hl) ?_, DrawStep.run rfl rfl (by kernel_rfl) (fun L v w hI hl => hI.2.2 10 _ rfl hl) ?_, DrawStep.run rfl rfl (by kernel_rfl) (fun L v w hI hl => hI.2.2 10 _ rfl hl) ?_, DrawStep.run rfl rfl (by kernel_rfl) (fun L v w hI hl => hI.2.2 10 _ rfl hl) ?_, DrawStep.run rfl rfl (by kernel_rfl) (fun L v w hI hl => hI.2.2 10 _ rfl hl) ?_, DrawStep.run rfl rfl (by kernel_rfl) (fun L v w hI hl => hI.2.2 10 _ rfl hl) ?_, DrawStep.run rfl rfl (by kernel_rfl) (fun L v w hI hl => hI.2.2 18 _ rfl hl) ?_, DrawStep.run rfl rfl (by kernel_rfl) (fun L v w hI hl => hI.2.2 10 _ rfl hl) ?_, DrawStep.mk rfl ?_, DrawStep.mk rfl ?_, trivial⟩
          all_goals intro L v actZ wc hL hd hA hI K' hK
          all_goals obtain ⟨oD, kD, hv⟩ := hI
          all_goals simp [Region.binds] at hd
          all_goals have HV := Lib.hid hv
          all_goals clear hv
          · have c4_ := hA.base 4 (by rfl)
            simp only [List.getElem?_toArray, List.getElem?_cons_zero, List.getElem?_cons_succ, Option.getD_some] at c4_
            go_simp
            exact hK.out (.pointer (some ⟨g0, 0, none⟩)) _ ⟨oD, kD, HV.out.put 0 (fun _ h => some_eq h)⟩
          · have h0_ : L 0 = true := by simp [hd]
            have c82_ : actZ.tmps[82]?.getD undef = .pointer (some ⟨g0, 0, none⟩) := (hA.get 0 h0_).trans (HV.out 0 _ rfl h0_)
            have u0_ := (oD.up 2).cell 0
            have u1_ := (oD.up 2).cell 1
            have u2_ := (oD.up 2).cell 2
            have u3_ := (oD.up 2).cell 3
            have u4_ := (oD.up 2).cell 4
            go_simp
            exact hK.out (.string AS) _ ⟨oD, kD, HV.out.put 1 (fun _ h => some_eq h)⟩
          · have h1_ : L 1 = true := by simp [hd]
            have c83_ : actZ.tmps[83]?.getD undef = .string AS := (hA.get 1 h1_).trans (HV.out 1 _ rfl h1_)
            go_simp
            exact hK.out (.int .i64 (AS.size : Int)) _ ⟨oD, kD, HV.out.put 2 (fun _ h => some_eq h)⟩
          · have h2_ : L 2 = true := by simp [hd]
            have c84_ : actZ.tmps[84]?.getD undef = .int .i64 (AS.size : Int) := (hA.get 2 h2_).trans (HV.out 2 _ rfl h2_)
            go_simp
            try simp only [ga1]
            try simp only [gb1]
            exact hK.out (.bool false) _ ⟨oD, kD, HV.out.put 3 (fun _ h => some_eq h)⟩
          · have h3_ : L 3 = true := by simp [hd]
            have c85_ : actZ.tmps[85]?.getD undef = .bool false := (hA.get 3 h3_).trans (HV.out 3 _ rfl h3_)
            go_simp
            exact hK.out (.bool false) _ ⟨oD, kD, HV.out.put 4 (fun _ h => some_eq h)⟩
          · have c5_ := hA.base 5 (by rfl)
            simp only [List.getElem?_toArray, List.getElem?_cons_zero, List.getElem?_cons_succ, Option.getD_some] at c5_
            go_simp
            exact hK.out (.pointer (some ⟨(g0 + 1), 0, none⟩)) _ ⟨oD, kD, HV.out.put 5 (fun _ h => some_eq h)⟩
          · have h5_ : L 5 = true := by simp [hd]
            have c87_ : actZ.tmps[87]?.getD undef = .pointer (some ⟨(g0 + 1), 0, none⟩) := (hA.get 5 h5_).trans (HV.out 5 _ rfl h5_)
            have u0_ := (oD.up 1).cell 0
            have u1_ := (oD.up 1).cell 1
            have u2_ := (oD.up 1).cell 2
            have u3_ := (oD.up 1).cell 3
            have u4_ := (oD.up 1).cell 4
            go_simp
            exact hK.out (.string BS) _ ⟨oD, kD, HV.out.put 6 (fun _ h => some_eq h)⟩
          · have h6_ : L 6 = true := by simp [hd]
            have c88_ : actZ.tmps[88]?.getD undef = .string BS := (hA.get 6 h6_).trans (HV.out 6 _ rfl h6_)
            go_simp
            exact hK.out (.int .i64 (BS.size : Int)) _ ⟨oD, kD, HV.out.put 7 (fun _ h => some_eq h)⟩
          · have h7_ : L 7 = true := by simp [hd]
            have c89_ : actZ.tmps[89]?.getD undef = .int .i64 (BS.size : Int) := (hA.get 7 h7_).trans (HV.out 7 _ rfl h7_)
            go_simp
            try simp only [ga1]
            try simp only [gb1]
            exact hK.out (.bool false) _ ⟨oD, kD, HV.out.put 8 (fun _ h => some_eq h)⟩
          · have h4_ : L 4 = true := by simp [hd]
            have c86_ : actZ.tmps[86]?.getD undef = .bool false := (hA.get 4 h4_).trans (HV.out 4 _ rfl h4_)
            have h8_ : L 8 = true := by simp [hd]
            have c90_ : actZ.tmps[90]?.getD undef = .bool false := (hA.get 8 h8_).trans (HV.out 8 _ rfl h8_)
            go_simp
            exact hK.out (.bool false) _ ⟨oD, kD, HV.out.put 9 (fun _ h => some_eq h)⟩
          · have h9_ : L 9 = true := by simp [hd]
            have c91_ : actZ.tmps[91]?.getD undef = .bool false := (hA.get 9 h9_).trans (HV.out 9 _ rfl h9_)
            go_simp
            exact hK.out (.bool false) _ ⟨oD, kD, HV.out.put 10 (fun _ h => some_eq h)⟩
          · have c4_ := hA.base 4 (by rfl)
            simp only [List.getElem?_toArray, List.getElem?_cons_zero, List.getElem?_cons_succ, Option.getD_some] at c4_
            have u0_ := (oD.up 2).cell 0
            have u1_ := (oD.up 2).cell 1
            have u2_ := (oD.up 2).cell 2
            have u3_ := (oD.up 2).cell 3
            have u4_ := (oD.up 2).cell 4
            go_simp
            exact hK.out (.agg #[.string AS, .int .i64 aq, .int .i64 af, .int .i64 al, .int .i64 ay]) _ ⟨oD, kD, HV.out.put 11 (fun _ h => some_eq h)⟩
          · have c5_ := hA.base 5 (by rfl)
            simp only [List.getElem?_toArray, List.getElem?_cons_zero, List.getElem?_cons_succ, Option.getD_some] at c5_
            have u0_ := (oD.up 1).cell 0
            have u1_ := (oD.up 1).cell 1
            have u2_ := (oD.up 1).cell 2
            have u3_ := (oD.up 1).cell 3
            have u4_ := (oD.up 1).cell 4
            go_simp
            exact hK.out (.agg #[.string BS, .int .i64 bc, .int .i64 bf, .int .i64 bl, .int .i64 bw]) _ ⟨oD, kD, HV.out.put 12 (fun _ h => some_eq h)⟩
          · have h11_ : L 11 = true := by simp [hd]
            have c93_ : actZ.tmps[93]?.getD undef = .agg #[.string AS, .int .i64 aq, .int .i64 af, .int .i64 al, .int .i64 ay] := (hA.get 11 h11_).trans (HV.out 11 _ rfl h11_)
            have h12_ : L 12 = true := by simp [hd]
            have c94_ : actZ.tmps[94]?.getD undef = .agg #[.string BS, .int .i64 bc, .int .i64 bf, .int .i64 bl, .int .i64 bw] := (hA.get 12 h12_).trans (HV.out 12 _ rfl h12_)
            go_simp
            refine (qa.out _ _ (oD.up 0)).mono ?_
            rintro _ w3_ ⟨rfl, o3_, k3_⟩
            exact hK.out (.bool true) _ ⟨o3_.re [0], kD.trans k3_, HV.out.put 13 (fun _ h => some_eq h)⟩
          · have c4_ := hA.base 4 (by rfl)
            simp only [List.getElem?_toArray, List.getElem?_cons_zero, List.getElem?_cons_succ, Option.getD_some] at c4_
            have u0_ := (oD.up 2).cell 0
            have u1_ := (oD.up 2).cell 1
            have u2_ := (oD.up 2).cell 2
            have u3_ := (oD.up 2).cell 3
            have u4_ := (oD.up 2).cell 4
            go_simp
            exact hK.out (.agg #[.string AS, .int .i64 aq, .int .i64 af, .int .i64 al, .int .i64 ay]) _ ⟨oD, kD, HV.out.put 14 (fun _ h => some_eq h)⟩
          · have c5_ := hA.base 5 (by rfl)
            simp only [List.getElem?_toArray, List.getElem?_cons_zero, List.getElem?_cons_succ, Option.getD_some] at c5_
            have u0_ := (oD.up 1).cell 0
            have u1_ := (oD.up 1).cell 1
            have u2_ := (oD.up 1).cell 2
            have u3_ := (oD.up 1).cell 3
            have u4_ := (oD.up 1).cell 4
            go_simp
            exact hK.out (.agg #[.string BS, .int .i64 bc, .int .i64 bf, .int .i64 bl, .int .i64 bw]) _ ⟨oD, kD, HV.out.put 15 (fun _ h => some_eq h)⟩
          · have h14_ : L 14 = true := by simp [hd]
            have c96_ : actZ.tmps[96]?.getD undef = .agg #[.string AS, .int .i64 aq, .int .i64 af, .int .i64 al, .int .i64 ay] := (hA.get 14 h14_).trans (HV.out 14 _ rfl h14_)
            have h15_ : L 15 = true := by simp [hd]
            have c97_ : actZ.tmps[97]?.getD undef = .agg #[.string BS, .int .i64 bc, .int .i64 bf, .int .i64 bl, .int .i64 bw] := (hA.get 15 h15_).trans (HV.out 15 _ rfl h15_)
            go_simp
            refine (qb.out _ _ (oD.up 0)).mono ?_
            rintro _ w3_ ⟨rfl, o3_, k3_⟩
            exact hK.out (.bool true) _ ⟨o3_.re [0], kD.trans k3_, HV.out.put 16 (fun _ h => some_eq h)⟩
          · have h13_ : L 13 = true := by simp [hd]
            have c95_ : actZ.tmps[95]?.getD undef = .bool true := (hA.get 13 h13_).trans (HV.out 13 _ rfl h13_)
            have h16_ : L 16 = true := by simp [hd]
            have c98_ : actZ.tmps[98]?.getD undef = .bool true := (hA.get 16 h16_).trans (HV.out 16 _ rfl h16_)
            go_simp
            exact hK.out (.bool true) _ ⟨oD, kD, HV.out.put 17 (fun _ h => some_eq h)⟩
          · have h17_ : L 17 = true := by simp [hd]
            have c99_ : actZ.tmps[99]?.getD undef = .bool true := (hA.get 17 h17_).trans (HV.out 17 _ rfl h17_)
            go_simp
            exact hK.out (.bool true) _ ⟨oD, kD, HV.out.put 18 (fun _ h => some_eq h)⟩
          · go_simp
            refine (HA.out _ _ (oD.up 0)).mono ?_
            rintro _ w3_ ⟨rfl, o3_, k3_⟩
            exact hK.out (.bool true) _ ⟨o3_.re [0], kD.trans k3_, HV.out.put 19 (fun _ h => some_eq h)⟩
          · have h18_ : L 18 = true := by simp [hd]
            have c100_ : actZ.tmps[100]?.getD undef = .bool true := (hA.get 18 h18_).trans (HV.out 18 _ rfl h18_)
            have h19_ : L 19 = true := by simp [hd]
            have c101_ : actZ.tmps[101]?.getD undef = .bool true := (hA.get 19 h19_).trans (HV.out 19 _ rfl h19_)
            go_simp
            exact hK.out (.bool true) _ ⟨oD, kD, HV.out.put 20 (fun _ h => some_eq h)⟩
          · have h10_ : L 10 = true := by simp [hd]
            have c92_ : actZ.tmps[92]?.getD undef = .bool false := (hA.get 10 h10_).trans (HV.out 10 _ rfl h10_)
            have h20_ : L 20 = true := by simp [hd]
            have c102_ : actZ.tmps[102]?.getD undef = .bool true := (hA.get 20 h20_).trans (HV.out 20 _ rfl h20_)
            go_simp
            exact hK.out (.bool true) _ ⟨oD, kD, HV.out.put 21 (fun _ h => some_eq h)⟩
          · have h21_ : L 21 = true := by simp [hd]
            have c103_ : actZ.tmps[103]?.getD undef = .bool true := (hA.get 21 h21_).trans (HV.out 21 _ rfl h21_)
            go_simp
            exact hK.out (.bool true) _ ⟨oD, kD, HV.out.put 22 (fun _ h => some_eq h)⟩
        case fin =>
          rintro L v wc hall ⟨oD, kD, hv⟩
          have h_ := hv 22 _ rfl (hall 22 (by decide))
          clear hv hall
          simp only [putAll, Act.put, List.setIfInBounds_toArray, List.set_cons_zero, List.set_cons_succ]
          go_wp2
          go_ret
          exact ⟨by first | rfl | exact congrArg _ h_, (oD.up 0).below kD⟩
end
end Go.Proofs.YtbldanhjbnpdiaaGreatDoor
