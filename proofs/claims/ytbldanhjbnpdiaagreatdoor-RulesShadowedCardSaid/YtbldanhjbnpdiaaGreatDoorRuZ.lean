/- Rules: Shadowed of both sides; plain laws of shadowed rules. -/
import Derived.Test.YtbldanhjbnpdiaaGreatDoorRuX
import Derived.Test.YtbldanhjbnpdiaaGreatDoorRuZb
import Derived.Test.YtbldanhjbnpdiaaGreatDoorRuZa
import Derived.Test.YtbldanhjbnpdiaaGreatDoorRuT1
import Derived.Test.YtbldanhjbnpdiaaGreatDoorRuT2
import Derived.Laws.Rows
namespace Go.Proofs.YtbldanhjbnpdiaaGreatDoor
open Go.RowKit
open SP
section
variable {W w w' : World} {R : List SP}
def ShRel (W w : World) (R : List SP) (l : List Ru) (a : Option Addr) (n c : Nat) (vi vo : Value) (wr : World) : Prop :=
  ∃ (i m c' : Nat) (a' : Option Addr), vi = .int .i64 (i : Int) ∧ i ≤ n ∧ vo = .slice a' m c' ∧ m = (shadU l i).length ∧
    Own wr (slc 3 1 a' m c' (natL (shadU l i)) :: old W :: slc 24 5 a n c (flat ruC l) :: R) ∧ Calm w wr
theorem ShRel.hit {l : List Ru} {a a' : Option Addr} {n c i m c' : Nat} {wr : World} (hi : i + 1 ≤ n) (hm : m = (shadU l i).length) (h : shadA l i = true)
    (o : Own wr (slc 3 1 a' (m + 1) c' (natL (shadU l i) ++ [.int .i64 (i : Int)]) :: old W :: slc 24 5 a n c (flat ruC l) :: R)) (k : Calm w wr) {x : Value} (hx : x = .int .i64 ((i + 1 : Nat) : Int)) : ShRel W w R l a n c x (.slice a' (m + 1) c') wr := by
  have e := shadU_next l i
  rw [if_pos h] at e
  refine ⟨i + 1, m + 1, c', a', hx, hi, rfl, by rw [e, List.length_append, hm]; rfl, ?_, k⟩
  rw [e]
  unfold natL at o ⊢
  rw [List.map_append]
  exact o
theorem ShRel.miss {l : List Ru} {a a' : Option Addr} {n c i m c' : Nat} {wr : World} (hi : i + 1 ≤ n) (hm : m = (shadU l i).length) (h : shadA l i = false)
    (o : Own wr (slc 3 1 a' m c' (natL (shadU l i)) :: old W :: slc 24 5 a n c (flat ruC l) :: R)) (k : Calm w wr) {x : Value} (hx : x = .int .i64 ((i + 1 : Nat) : Int)) : ShRel W w R l a n c x (.slice a' m c') wr := by
  have e := shadU_next l i
  rw [if_neg (by rw [h]; exact Bool.false_ne_true)] at e
  exact ⟨i + 1, m, c', a', hx, hi, rfl, by rw [e, hm], by rw [e]; exact o, k⟩
set_option maxHeartbeats 6400000 in
set_option maxRecDepth 100000 in
theorem ruShadowed_spec {l : List Ru} {a : Option Addr} {n c : Nat} (hn : n = l.length) (hn2 : n ≤ 1000) (hl : ∀ r ∈ l, r.st.length ≤ 2000000) (hT : TabsW W) (o : Own w (old W :: slc 24 5 a n c (flat ruC l) :: R)) :
    Calls Tryz.prog 17 #[.slice a n c] w fun e w' => ∃ a' m c', e = .returned (.slice a' m c') ∧ m = (shadU l n).length ∧ Own w' (slc 3 1 a' m c' (natL (shadU l n)) :: old W :: slc 24 5 a n c (flat ruC l) :: R) ∧ Calm w w' := by
  have HN := Lib.hid hn
  have HL := Lib.hid fun (i : Nat) (r : Ru) (hr : l[i]? = some r) => hl r (List.mem_of_getElem? hr)
  have PC := Lib.hid fun (x y : Ru) (hx : x.st.length ≤ 2000000) (hy : y.st.length ≤ 2000000) (w1 : World) (R1 : List SP) (o1 : Own w1 (old W :: R1)) => ruCovers_spec x y hx hy hT o1
  clear hn hl hT
  have hT1 : ShRel W w R l a n c (.int .i64 0) (.slice none 0 0) w := ⟨0, 0, 0, none, rfl, by omega, rfl, rfl, Own.slc_nil o, Calm.refl w⟩
  go_enter Tryz.func17, Tryz.ntmps17
  go_wp2
  go_loopw [10, 3] (fun v10 v3 wr => ShRel W w R l a n c v10 v3 wr) (fun v _ _ => n - viN v)
  case atStart => exact hT1
  case round =>
    clear hT1 o
    obtain ⟨i, m, c', a', rfl, hi, rfl, hm, oR, kR⟩ := hrel
    have hmi := shadU_len l i
    by_cases hlt : i < n
    · have dl : decide (i < n) = true := decide_eq_true hlt
      obtain ⟨b, hb⟩ : ∃ r, l[i]? = some r := ⟨_, List.getElem?_eq_getElem (by rw [← HN.out]; exact hlt)⟩
      obtain ⟨g, hg, d0, d1, d2, d3, d4, d5⟩ := rus_five HN.out (oR.up 2) hb
      subst hg
      have hcc := ((oR.up 2).slc_len).2.1
      have hc0 : ¬ c = 0 := by omega
      have oB := (oR.alloc (.cells #[.string (mkB b.st), .int .i64 b.cls, .int .i64 b.first, .int .i64 b.last, .int .i64 b.flow] 24)).re [1, 2, 3, 0]
      have HB := Lib.hid hb
      have HM := Lib.hid hm
      have hci := hi
      have hmm : m ≤ 1000 := by omega
      have hbl := HL.out i b hb
      have PB := Lib.hid fun (x : Ru) (hx : x.st.length ≤ 2000000) => PC.out x b hx hbl
      clear hb hm hbl PC
      unfold ruV at PB
      have kB := calm_alloc (x := .cells #[.string (mkB b.st), .int .i64 b.cls, .int .i64 b.first, .int .i64 b.last, .int .i64 b.flow] 24) kR
      go_wp2_with fail
      generalize wr.heap.size = g5 at *
      generalize wr.alloc (.cells #[.string (mkB b.st), .int .i64 b.cls, .int .i64 b.first, .int .i64 b.last, .int .i64 b.flow] 24) = w5 at *
      clear oR kR d0 d1 d2 d3 d4 d5
      go_wp2
      go_loopw [19, 3] (fun v v3 wr => ∃ k : Nat, v = .int .i64 (k : Int) ∧ v3 = .slice a' m c' ∧ k ≤ i ∧ NoCov l b k ∧ Own wr (slc 3 1 a' m c' (natL (shadU l i)) :: old W :: slc 24 5 (some ⟨g, 0, none⟩) n c (flat ruC l) :: cel g5 24 [.string (mkB b.st), .int .i64 b.cls, .int .i64 b.first, .int .i64 b.last, .int .i64 b.flow] :: R) ∧ Calm w wr) (fun v _ _ => i - viN v)
      case atStart => exact ⟨0, rfl, rfl, by omega, fun j a hj => by omega, oB, kB⟩
      case round =>
        clear oB kB
        obtain ⟨k, rfl, rfl, hk, hno, oK, kK⟩ := hrel
        by_cases hlk : k < i
        · have dk : decide (k < i) = true := decide_eq_true hlk
          obtain ⟨x, hx⟩ : ∃ r, l[k]? = some r := ⟨_, List.getElem?_eq_getElem (by rw [← HN.out]; omega)⟩
          obtain ⟨g', hg', e0, e1, e2, e3, e4, e5⟩ := rus_five HN.out (oK.up 2) hx
          cases hg'
          have oX := (oK.alloc (.cells #[.string (mkB x.st), .int .i64 x.cls, .int .i64 x.first, .int .i64 x.last, .int .i64 x.flow] 24)).re [2, 0, 4, 1, 3]
          have cc := Lib.hid (PB.out x (HL.out k x hx))
          unfold ruV at cc
          have hz1 := Lib.hid fun hc => NoCov.next hno hx hc
          have hz2 := Lib.hid fun hc => shadA_hit HB.out hx hlk hc
          have kX := calm_alloc (x := .cells #[.string (mkB x.st), .int .i64 x.cls, .int .i64 x.first, .int .i64 x.last, .int .i64 x.flow] 24) kK
          clear hno hx PB
          generalize covOK x b = zz at *
          have y0_ := (oX.up 2).cell 0
          have y1_ := (oX.up 2).cell 1
          have y2_ := (oX.up 2).cell 2
          have y3_ := (oX.up 2).cell 3
          have y4_ := (oX.up 2).cell 4
          go_wp2_with fail
          generalize wr.heap.size = g6 at *
          generalize wr.alloc (.cells #[.string (mkB x.st), .int .i64 x.cls, .int .i64 x.first, .int .i64 x.last, .int .i64 x.flow] 24) = w6 at *
          have z0_ := (oX.up 1).cell 0
          have z1_ := (oX.up 1).cell 1
          have z2_ := (oX.up 1).cell 2
          have z3_ := (oX.up 1).cell 3
          have z4_ := (oX.up 1).cell 4
          go_wp2_with fail
          refine (cc.out _ _ oX).mono ?_
          rintro e1 w1 ⟨rfl, o1, k1⟩
          cases zz with
          | false =>
            go_wp2
            go_roundw
            case rel => exact ⟨k + 1, by go_num, rfl, by omega, hz1.out (by first | rfl | trivial), ((o1.re [3, 0, 4, 2, 1]).up 4).drop, kX.trans k1⟩
            case measure => simp [viN]; omega
          | true =>
            have oA := (o1.alloc (.cells #[.int .i64 (i : Int)] 3)).up 4
            go_wp2_with (at_builtin; refine wpList_append_slc rfl _ _ rfl Tryz.elemI rfl oA ⟨w1.heap.size, 0, none⟩ 1 1 [.int .i64 (i : Int)] rfl rfl ?c1 ?c2 ?c3 ?c4 ?c5)
            case c1 => exact Own.news (T := 3) (o1.alloc _)
            case c2 => intro u hu; simp at hu; rcases hu with rfl; rfl
            case c3 => unfold maxLen; omega
            case c4 => omega
            case c5 =>
              intro a4 c4 w4 o4 k4
              go_wp2
              go_roundw
              case rel => exact ShRel.hit (by omega) HM.out (hz2.out (by first | rfl | trivial)) ((o4.re [1, 3, 4, 0, 2, 5]).drop.drop.drop) (kX.trans (k1.trans k4.al)) (by go_num)
              case measure => simp [viN]; omega
        · have dk : decide (k < i) = false := decide_eq_false hlk
          have he : k = i := by omega
          subst he
          have hz := Lib.hid (shadA_miss HB.out hno)
          clear hno
          go_wp2
          go_roundw
          case rel => exact ShRel.miss (by omega) HM.out hz.out ((oK.up 3).drop) kK (by go_num)
          case measure => simp [viN]; omega
    · have dl : decide (i < n) = false := decide_eq_false hlt
      have he : i = n := by omega
      subst he
      go_wp2
      go_ret
      exact ⟨_, _, _, rfl, hm, oR, kR⟩
set_option maxHeartbeats 6400000 in
set_option maxRecDepth 100000 in
theorem refShadowed_spec {l : List Ru} {a : Option Addr} {n c : Nat} (hn : n = l.length) (hn2 : n ≤ 1000) (hl : ∀ r ∈ l, r.st.length ≤ 2000000) (hT : TabsW W) (o : Own w (old W :: slc 24 5 a n c (flat ruC l) :: R)) :
    Calls Tryz.prog 19 #[.slice a n c] w fun e w' => ∃ a' m c', e = .returned (.slice a' m c') ∧ m = (shadU l n).length ∧ Own w' (slc 3 1 a' m c' (natL (shadU l n)) :: old W :: slc 24 5 a n c (flat ruC l) :: R) ∧ Calm w w' := by
  have HN := Lib.hid hn
  have HL := Lib.hid fun (i : Nat) (r : Ru) (hr : l[i]? = some r) => hl r (List.mem_of_getElem? hr)
  have PC := Lib.hid fun (x y : Ru) (hx : x.st.length ≤ 2000000) (hy : y.st.length ≤ 2000000) (w1 : World) (R1 : List SP) (o1 : Own w1 (old W :: R1)) => refCovers_spec x y hx hy hT o1
  clear hn hl hT
  have hT1 : ShRel W w R l a n c (.int .i64 0) (.slice none 0 0) w := ⟨0, 0, 0, none, rfl, by omega, rfl, rfl, Own.slc_nil o, Calm.refl w⟩
  go_enter Tryz.func19, Tryz.ntmps19
  go_wp2
  go_loopw [4, 3] (fun v4 v3 wr => ShRel W w R l a n c v4 v3 wr) (fun v _ _ => n - viN v)
  case atStart => exact hT1
  case round =>
    clear hT1 o
    obtain ⟨i, m, c', a', rfl, hi, rfl, hm, oR, kR⟩ := hrel
    have hmi := shadU_len l i
    by_cases hlt : i < n
    · have dl : decide (i < n) = true := decide_eq_true hlt
      obtain ⟨b, hb⟩ : ∃ r, l[i]? = some r := ⟨_, List.getElem?_eq_getElem (by rw [← HN.out]; exact hlt)⟩
      obtain ⟨g, hg, _⟩ := rus_five HN.out (oR.up 2) hb
      subst hg
      have HB := Lib.hid hb
      have HM := Lib.hid hm
      have hci := hi
      have hmm : m ≤ 1000 := by omega
      have hbl := HL.out i b hb
      have PB := Lib.hid fun (x : Ru) (hx : x.st.length ≤ 2000000) => PC.out x b hx hbl
      clear hb hm hbl PC
      unfold ruV at PB
      go_wp2
      go_loopw [5, 3] (fun v v3 wr => ∃ k : Nat, v = .int .i64 (k : Int) ∧ v3 = .slice a' m c' ∧ k ≤ i ∧ NoCov l b k ∧ Own wr (slc 3 1 a' m c' (natL (shadU l i)) :: old W :: slc 24 5 (some ⟨g, 0, none⟩) n c (flat ruC l) :: R) ∧ Calm w wr) (fun v _ _ => i - viN v)
      case atStart => exact ⟨0, rfl, rfl, by omega, fun j a hj => by omega, oR, kR⟩
      case round =>
        clear oR kR
        obtain ⟨k, rfl, rfl, hk, hno, oK, kK⟩ := hrel
        by_cases hlk : k < i
        · have dk : decide (k < i) = true := decide_eq_true hlk
          have hkn : k < n := by omega
          obtain ⟨x, hx⟩ : ∃ r, l[k]? = some r := ⟨_, List.getElem?_eq_getElem (by rw [← HN.out]; omega)⟩
          obtain ⟨g', hg', e0, e1, e2, e3, e4, e5⟩ := rus_five HN.out (oK.up 2) hx
          cases hg'
          obtain ⟨g', hg', d0, d1, d2, d3, d4, d5⟩ := rus_five HN.out (oK.up 2) HB.out
          cases hg'
          have cc := Lib.hid (PB.out x (HL.out k x hx))
          unfold ruV at cc
          have hz1 := Lib.hid fun hc => NoCov.next hno hx hc
          have hz2 := Lib.hid fun hc => shadA_hit HB.out hx hlk hc
          clear hno hx PB
          generalize covOK x b = zz at *
          go_wp2
          refine wp_region_tail 8 (by kernel_rfl) (by kernel_rfl) ?_
          simp only [List.take_succ_cons, List.take_zero, List.drop_succ_cons, List.drop_zero]
          repeat still_step
          refine wpStill_nil ?_
          go_wp2_with fail
          refine (cc.out _ _ (oK.drew.up 1)).mono ?_
          rintro e1 w1 ⟨rfl, o1, k1⟩
          cases zz with
          | false =>
            go_wp2
            go_roundw
            case rel => exact ⟨k + 1, by go_num, rfl, by omega, hz1.out (by first | rfl | trivial), o1.swap, kK.trans ⟨k1.os, k1.tape, k1.output⟩⟩
            case measure => simp [viN]; omega
          | true =>
            have oA := (o1.alloc (.cells #[.int .i64 (i : Int)] 3)).up 2
            go_wp2_with (at_builtin; refine wpList_append_slc rfl _ _ rfl Tryz.elemI rfl oA ⟨w1.heap.size, 0, none⟩ 1 1 [.int .i64 (i : Int)] rfl rfl ?c1 ?c2 ?c3 ?c4 ?c5)
            case c1 => exact Own.news (T := 3) (o1.alloc _)
            case c2 => intro u hu; simp at hu; rcases hu with rfl; rfl
            case c3 => unfold maxLen; omega
            case c4 => omega
            case c5 =>
              intro a4 c4 w4 o4 k4
              go_wp2
              go_roundw
              case rel => exact ShRel.hit (by omega) HM.out (hz2.out (by first | rfl | trivial)) ((o4.re [1, 0, 2, 3]).drop) (kK.trans (Calm.trans ⟨k1.os, k1.tape, k1.output⟩ k4.al)) (by go_num)
              case measure => simp [viN]; omega
        · have dk : decide (k < i) = false := decide_eq_false hlk
          have he : k = i := by omega
          subst he
          have hz := Lib.hid (shadA_miss HB.out hno)
          clear hno
          go_wp2
          go_roundw
          case rel => exact ShRel.miss (by omega) HM.out hz.out oK kK (by go_num)
          case measure => simp [viN]; omega
    · have dl : decide (i < n) = false := decide_eq_false hlt
      have he : i = n := by omega
      subst he
      go_wp2
      go_ret
      exact ⟨_, _, _, rfl, hm, oR, kR⟩
end
end Go.Proofs.YtbldanhjbnpdiaaGreatDoor
