/- RulesShadowed: the walk. -/
import Derived.Test.YtbldanhjbnpdiaaGreatDoorRuZ
import Derived.Test.YtbldanhjbnpdiaaGreatDoorRuU
import Derived.Test.YtbldanhjbnpdiaaGreatDoorRuJ0
import Derived.Deep.RegionHeld3
import Derived.Laws.Rows
namespace Go.Proofs.YtbldanhjbnpdiaaGreatDoor
open Go.RowKit
open Go.Shelf
open SP
section
variable {W w w' : World} {R : List SP}
/-- The loop that keeps the rules that are not shadowed. -/
def KpRel (W w : World) (R : List SP) (l : List Ru) (n : Nat) (vi vo : Value) (wr : World) : Prop :=
  ∃ (i m c' : Nat) (a' : Option Addr), vi = .int .i64 (i : Int) ∧ i ≤ n ∧ vo = .slice a' m c' ∧ m = (keepL l i).length ∧
    Own wr (slc 24 5 a' m c' (flat ruC (keepL l i)) :: old W :: R) ∧ Calm w wr
theorem KpRel.skip {l : List Ru} {a' : Option Addr} {n i m c' : Nat} {wr : World} {x : Value} (hx : x = .int .i64 ((i + 1 : Nat) : Int)) (hi : i + 1 ≤ n) (hm : m = (keepL l i).length) (h : shadA l i = true)
    (o : Own wr (slc 24 5 a' m c' (flat ruC (keepL l i)) :: old W :: R)) (k : Calm w wr) : KpRel W w R l n x (.slice a' m c') wr :=
  ⟨i + 1, m, c', a', hx, hi, rfl, by rw [keepL_skip h]; exact hm, by rw [keepL_skip h]; exact o, k⟩
theorem KpRel.take {l : List Ru} {b : Ru} {a' : Option Addr} {n i m c' : Nat} {wr : World} {x : Value} (hx : x = .int .i64 ((i + 1 : Nat) : Int)) (hi : i + 1 ≤ n) (hm : m = (keepL l i).length) (hb : l[i]? = some b) (h : shadA l i = false)
    (o : Own wr (slc 24 5 a' (m + 1) c' (flat ruC (keepL l i) ++ ruC b) :: old W :: R)) (k : Calm w wr) : KpRel W w R l n x (.slice a' (m + 1) c') wr :=
  ⟨i + 1, m + 1, c', a', hx, hi, rfl, by rw [keepL_take hb h, List.length_append, hm]; rfl, by rw [keepL_take hb h, flat_append, show flat ruC [b] = ruC b by simp [flat]]; exact o, k⟩
set_option maxHeartbeats 25600000 in
set_option maxRecDepth 100000 in
theorem rulesShadowed_walk (a0 : Option Addr) (len0 cap0 : Nat) (z0 : List Int) (w : World) (w0 : IsRow .i64 w a0 len0 cap0 z0) (hT : TabsW w) (hm : MaxV w) :
    Calls Tryz.prog 5 #[.slice a0 len0 cap0] w fun e w' => e = .returned (.bool true) ∧ Below w.heap.size w w' := by
  have oW := Own.start w
  have SP1 := Lib.hid fun (l : List Ru) (aa : Option Addr) (n c : Nat) (hn : n = l.length) (hn2 : n ≤ 1000) (hl : ∀ r ∈ l, r.st.length ≤ 2000000) (w1 : World) (R : List SP) (o1 : Own w1 (old w :: slc 24 5 aa n c (flat ruC l) :: R)) => ruShadowed_spec hn hn2 hl hT o1
  have SP2 := Lib.hid fun (l : List Ru) (aa : Option Addr) (n c : Nat) (hn : n = l.length) (hn2 : n ≤ 1000) (hl : ∀ r ∈ l, r.st.length ≤ 2000000) (w1 : World) (R : List SP) (o1 : Own w1 (old w :: slc 24 5 aa n c (flat ruC l) :: R)) => refShadowed_spec hn hn2 hl hT o1
  have PL := Lib.hid fun (l : List Ru) (aa : Option Addr) (n c : Nat) (h : Hd) (hn : n = l.length) (hn2 : n ≤ 1000) (hl : ∀ r ∈ l, r.st.length ≤ 2000000) (hh : h.st.length ≤ 2000000) (w1 : World) (R : List SP) (o1 : Own w1 (old w :: slc 24 5 aa n c (flat ruC l) :: R)) => ruClassify_spec h hn hn2 hl hh hT o1
  have HA := Lib.hid fun (w1 : World) (R : List SP) (o1 : Own w1 (old w :: R)) => awake9_spec hm o1
  clear hT hm
  go_enter Tryz.func5, Tryz.ntmps5
  go_wp2_with fail
  refine (genNew_spec a0 len0 cap0 z0 (w0) oW).mono ?_
  rintro e1 v1 ⟨cb, rfl, o1, k1⟩
  go_wp2_with fail
  refine (next_spec w cb 0 7 _ _ (by omega) (by omega) (by omega) o1).mono ?_
  rintro e2 w2 ⟨x2, hx0, hx1, rfl, o2, k2⟩
  obtain ⟨k0, rfl⟩ : ∃ k : Nat, x2 = (k : Int) := ⟨x2.toNat, by omega⟩
  have hk0 : k0 < 7 := by omega
  have hS : RuRel w w2 cb 1 k0 [] (.int .i64 (k0 : Int)) (.slice none 0 0) w2 := RuRel.start o2
  have K2 := k1.trans k2
  clear oW o1 k1 o2 k2 hx0 hx1
  go_wp2
  go_loopw [5, 4] (fun v5 v4 wr => RuRel w w2 cb 1 k0 [] v5 v4 wr) (fun v _ _ => viN v)
  case atStart => exact hS
  case round =>
    clear hS
    obtain ⟨k, l, aa, c, rfl, hk, rfl, hl, hG, oR, kR⟩ := hrel
    by_cases hkp : 0 < k
    · obtain ⟨k, rfl⟩ : ∃ k', k = k' + 1 := ⟨k - 1, by omega⟩
      have dk : decide ((0 : Int) < ((k + 1 : Nat) : Int)) = true := decide_eq_true (by omega)
      obtain ⟨n, hn⟩ : ∃ n, k0 - (k + 1) = n := ⟨_, rfl⟩
      rw [hn] at hl oR
      simp only [hn]
      have HL := Lib.hid hl
      clear hl
      go_wp2_with fail
      refine (genRule_spec (1 + 6 * n) (by omega) oR).mono ?_
      rintro e3 w3 ⟨r, hr, rfl, o3, k3⟩
      have oA := (o3.alloc (.cells #[.string (mkB r.st), .int .i64 r.cls, .int .i64 r.first, .int .i64 r.last, .int .i64 r.flow] 24))
      have hnw := Own.news (T := 24) (vs := ruC r) oA
      unfold ruV
      go_wp2_with (at_builtin; refine wpList_append_slc rfl _ _ rfl Tryz.ruT rfl (oA.up 3) ⟨w3.heap.size, 0, none⟩ 1 1 (ruC r) rfl rfl hnw (by intro z hz; unfold ruC at hz; simp at hz; rcases hz with rfl | rfl | rfl | rfl | rfl <;> rfl) (by unfold maxLen; omega) (by omega) ?_)
      intro a4 c4 w4 o4 k4
      go_wp2
      go_roundw
      case rel => exact RuRel.next (k := k) (by go_num) (by omega) hn.symm HL.out hG hr (o4.up 1).drop (kR.trans (k3.trans (Calm.al k4)))
      case measure => simp [viN]
    · have hk0' : k = 0 := by omega
      subst hk0'
      rw [Nat.sub_zero] at hl oR
      simp only [Nat.sub_zero]
      have dk : decide ((0 : Int) < ((0 : Nat) : Int)) = false := rfl
      have hgl := grus_len hG
      have s1 := SP1.out l aa k0 c hl (by omega) hgl
      have s2 := SP2.out l aa k0 c hl (by omega) hgl
      have hlt := List.take_of_length_le (l := l) (i := k0) (by omega)
      have hkk := cls_keep l
      have KK := Lib.hid fun (h : Hd) => (hkk h k0 (by omega)).trans (by rw [hlt])
      have KL := Lib.hid fun (m : Nat) (hm : m = (keepL l k0).length) => (show m ≤ 1000 by have := keepL_len l k0; omega)
      have KG := Lib.hid fun (r : Ru) (hr : r ∈ keepL l k0) => hgl r (keepL_mem l k0 r hr)
      have HL := Lib.hid hl
      have HGL := Lib.hid hgl
      have hml := shadU_len l k0
      clear hlt hkk hl hG hgl SP1 SP2
      go_wp2_with fail
      refine (s1 _ _ (oR.re [1, 2, 0])).mono ?_
      rintro e3 w3 ⟨a3, m, c3, rfl, hm, o3, k3⟩
      have HM := Lib.hid hm
      clear hm
      go_wp2_with fail
      refine (s2 _ _ (o3.re [1, 2, 0])).mono ?_
      rintro e4 w4 ⟨a4, m', c4, rfl, hm', o4, k4⟩
      have he : m' = m := hm'.trans HM.out.symm
      subst he
      have hme : m' ≤ 1000 := by omega
      clear hm'
      go_wp2_with fail
      have oE : Own w4 (slc 3 1 a3 m' c3 (natL (shadU l k0)) :: slc 3 1 a4 m' c4 (natL (shadU l k0)) :: old w :: slc 24 5 aa k0 c (flat ruC l) :: Ch w cb (1 + 6 * k0) :: []) := o4.re [3, 0, 1, 2]
      have hE := equalI_spec HM.out hme oE
      refine hE.mono ?_
      rintro e5 w5 ⟨rfl, o5, k5⟩
      have K5 := K2.trans (kR.trans (k3.trans (k4.trans k5)))
      have oS := o5.swap.drop.re [1, 0]
      have hT1 : KpRel w w [slc 3 1 a3 m' c3 (natL (shadU l k0)), slc 24 5 aa k0 c (flat ruC l), Ch w cb (1 + 6 * k0)] l k0 (.int .i64 0) (.slice none 0 0) w5 := ⟨0, 0, 0, none, rfl, by omega, rfl, rfl, Own.slc_nil oS, K5⟩
      clear s1 s2 oR kR o3 k3 o4 k4 o5 k5 K2 K5 oS hE oE
      go_wp2
      go_loopw [8, 7] (fun v8 v7 wr => KpRel w w [slc 3 1 a3 m' c3 (natL (shadU l k0)), slc 24 5 aa k0 c (flat ruC l), Ch w cb (1 + 6 * k0)] l k0 v8 v7 wr) (fun v _ _ => k0 - viN v)
      case atStart => exact hT1
      case round =>
        clear hT1
        obtain ⟨i, m, c', a', rfl, hi, rfl, hm, oR, kR⟩ := hrel
        have hmk := keepL_len l i
        by_cases hlt : i < k0
        · have dl : decide (i < k0) = true := decide_eq_true hlt
          obtain ⟨b, hb⟩ : ∃ r, l[i]? = some r := ⟨_, List.getElem?_eq_getElem (by rw [← HL.out]; exact hlt)⟩
          have hin := shadU_mem (l := l) hlt
          have hs1 := Lib.hid fun (h : shadA l i = true) (x : Value) (hx : x = .int .i64 ((i + 1 : Nat) : Int)) (wr : World) o k => KpRel.skip (w := w) (wr := wr) (W := w) (a' := a') (c' := c') (R := [slc 3 1 a3 m' c3 (natL (shadU l k0)), slc 24 5 aa k0 c (flat ruC l), Ch w cb (1 + 6 * k0)]) hx (show i + 1 ≤ k0 by omega) hm h o k
          have hs2 := Lib.hid fun (h : shadA l i = false) (x : Value) (hx : x = .int .i64 ((i + 1 : Nat) : Int)) (wr : World) (a'' : Option Addr) (c'' : Nat) o k => KpRel.take (w := w) (wr := wr) (W := w) (a' := a'') (c' := c'') (R := [slc 3 1 a3 m' c3 (natL (shadU l k0)), slc 24 5 aa k0 c (flat ruC l), Ch w cb (1 + 6 * k0)]) hx (show i + 1 ≤ k0 by omega) hm hb h o k
          have hh := hasI_spec i HM.out (by omega) (oR.up 2)
          rw [hin] at hh
          generalize shadA l i = zz at *
          have hmm : m ≤ 1000 := by omega
          clear hin hm
          go_wp2_with fail
          refine hh.mono ?_
          rintro e1 w1 ⟨rfl, o1, k1⟩
          have K1 := kR.trans k1
          cases zz with
          | true =>
            go_wp2
            go_roundw
            case rel => exact hs1.out (by first | rfl | trivial) _ (by go_num) _ (o1.re [1, 2, 0]) K1
            case measure => simp [viN]; omega
          | false =>
            obtain ⟨g, hg, d0, d1, d2, d3, d4, d5⟩ := rus_five HL.out (o1.up 3) hb
            subst hg
            have oA := (o1.alloc (.cells #[.string (mkB b.st), .int .i64 b.cls, .int .i64 b.first, .int .i64 b.last, .int .i64 b.flow] 24))
            have hnw := Own.news (T := 24) (vs := ruC b) oA
            clear hb
            go_wp2_with (at_builtin; refine wpList_append_slc rfl _ _ rfl Tryz.ruT rfl (oA.up 2) ⟨w1.heap.size, 0, none⟩ 1 1 (ruC b) rfl rfl hnw (by intro z hz; unfold ruC at hz; simp at hz; rcases hz with rfl | rfl | rfl | rfl | rfl <;> rfl) (by unfold maxLen; omega) (by omega) ?_)
            intro a4 c4 w4 o4 k4
            go_wp2
            go_roundw
            case rel => exact hs2.out (by first | rfl | trivial) _ (by go_num) _ _ _ ((o4.re [1, 0, 3, 2]).drop) (K1.trans (Calm.al k4))
            case measure => simp [viN]; omega
        · have dl : decide (i < k0) = false := decide_eq_false hlt
          have he : i = k0 := by omega
          subst he
          have oS := (oR.re [2, 4, 1, 3, 0]).drop
          have PA := Lib.hid fun (h : Hd) (hh : h.st.length ≤ 2000000) => PL.out l aa i c h HL.out (by omega) HGL.out hh
          have PB := Lib.hid fun (h : Hd) (hh : h.st.length ≤ 2000000) => PL.out (keepL l i) a' m c' h hm (KL.out m hm) KG.out hh
          have PB2 := Lib.hid fun (h : Hd) => KK.out h
          generalize flat ruC l = fl at *
          generalize flat ruC (keepL l i) = fk at *
          clear PL HL HGL KL KG KK HM hm hml oR
          have hT1 : ∃ j : Nat, (Value.int .i64 0 : Value) = .int .i64 (j : Int) ∧ j ≤ 4 ∧ Own wr [Ch w cb (1 + 6 * i + 5 * j), old w, slc 24 5 aa i c fl, slc 24 5 a' m c' fk] ∧ Calm w wr := ⟨0, rfl, by omega, oS, kR⟩
          clear oS kR
          go_wp2
          go_loopw [9] (fun v wr => ∃ j : Nat, v = .int .i64 (j : Int) ∧ j ≤ 4 ∧ Own wr [Ch w cb (1 + 6 * i + 5 * j), old w, slc 24 5 aa i c fl, slc 24 5 a' m c' fk] ∧ Calm w wr) (fun v _ => 4 - viN v)
          case atStart => exact hT1
          case round =>
            clear hT1
            obtain ⟨j, rfl, hj, oR, kR⟩ := hrel
            by_cases hlt : j < 4
            · have dl : decide (j < 4) = true := decide_eq_true hlt
              go_wp2_with fail
              refine (genHeader_spec (1 + 6 * i + 5 * j) (by omega) oR).mono ?_
              rintro e3 w3 ⟨h, hh, rfl, o3, k3⟩
              have hhl : h.st.length ≤ 2000000 := by have := hh.len; omega
              have c1 := PA.out h hhl
              have c2 := PB.out h hhl
              rw [PB2.out h] at c2
              have K3 := kR.trans k3
              unfold hdV at c1 c2 ⊢
              unfold clsV at c1 c2
              generalize clsO l h = oc at *
              generalize oc.getD (-1) = fv at *
              generalize oc.isSome = fb at *
              have c1 := Lib.hid c1
              have c2 := Lib.hid c2
              clear hh hhl oR kR k3 PA PB PB2
              generalize mkB h.st = XS at *
              generalize h.cls = x1 at *
              generalize h.port = x2 at *
              generalize h.len = x3 at *
              generalize h.life = x4 at *
              have o4 := (o3.alloc (.cells #[.string XS, .int .i64 x1, .int .i64 x2, .int .i64 x3, .int .i64 x4] 29)).re [2, 3, 0, 1]
              have y0_ := (o4.up 2).cell 0
              have y1_ := (o4.up 2).cell 1
              have y2_ := (o4.up 2).cell 2
              have y3_ := (o4.up 2).cell 3
              have y4_ := (o4.up 2).cell 4
              go_wp2_with fail
              refine (c1.out _ _ o4).mono ?_
              rintro e4 w4 ⟨rfl, o5, k5⟩
              have K5 := K3.trans (Calm.al k5)
              clear y0_ y1_ y2_ y3_ y4_ o4 k5 K3
              generalize w3.heap.size = gx at *
              have y0_ := (o5.up 2).cell 0
              have y1_ := (o5.up 2).cell 1
              have y2_ := (o5.up 2).cell 2
              have y3_ := (o5.up 2).cell 3
              have y4_ := (o5.up 2).cell 4
              go_wp2_with fail
              refine (c2.out _ _ (o5.re [0, 4, 2, 3, 1])).mono ?_
              rintro e6 w6 ⟨rfl, o6, k6⟩
              have K6 := K5.trans k6
              clear y0_ y1_ y2_ y3_ y4_ o5 k6 K5 o3 c1 c2
              go_wp2
              go_roundw
              case rel => exact ⟨j + 1, by go_num, by omega, (Ch.upTo (N := 1 + 6 * i + 5 * j + 5) (M := 1 + 6 * i + 5 * (j + 1)) (by omega) ((o6.re [2, 3, 0, 4, 1]).drop)), ⟨K6.os, K6.tape, K6.output⟩⟩
              case measure => simp [viN]; omega
            · have dl : decide (j < 4) = false := decide_eq_false hlt
              go_wp2_with fail
              refine (HA.out _ _ (oR.up 1)).mono ?_
              rintro e4 w4 ⟨rfl, o4, k4⟩
              go_wp2
              go_ret
              exact ⟨rfl, o4.below (kR.trans k4)⟩
end
end Go.Proofs.YtbldanhjbnpdiaaGreatDoor
