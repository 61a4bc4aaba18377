/- Chapter 23: the law's generator of eligible flows, lengths, and the example. -/
import Derived.Test.YtnandakoigmknaaServe
import Derived.Test.YtnandakoigmknaaGen
namespace Go.Proofs.Ytnandakoigmknaa
open Go.RowKit
open SP

def fullSet : List (Int × Int) := [(0, 1), (1, 2), (2, 3), (3, 1), (4, 16)]

section
variable {W w w' : World} {R : List SP} {b : Nat}

def SetPost (W : World) (b N : Nat) (R : List SP) (w : World) (e : Ending) (w' : World) : Prop :=
  ∃ (l : List (Int × Int)) (a : Option Addr) (cap : Nat), l.Sublist fullSet ∧ e = .returned (.slice a l.length cap) ∧ Own w' (slc 40 2 a l.length cap (flat part l) :: Ch W b (N + 5) :: old W :: R) ∧ Calm w w'

def SetRel (W : World) (b N : Nat) (R : List SP) (w : World) (v3 v4 : Value) (wr : World) : Prop :=
  ∃ (i : Nat) (l : List (Int × Int)) (a : Option Addr) (cap : Nat), i ≤ 5 ∧ l.Sublist (fullSet.take i) ∧ v4 = .int .i64 (i : Int) ∧ v3 = .slice a l.length cap ∧
    Own wr (slc 40 2 a l.length cap (flat part l) :: Ch W b (N + i) :: old W :: R) ∧ Calm w wr

theorem take_full {i : Nat} {p : Int × Int} (h : fullSet[i]? = some p) : fullSet.take (i + 1) = fullSet.take i ++ [p] := by
  rw [List.take_add_one, h]; rfl

set_option maxHeartbeats 1600000 in
set_option maxRecDepth 100000 in
theorem set23_spec (N : Nat) (hN : (N : Int) ≤ 900000000000) (o : Own w (Ch W b N :: old W :: R)) :
    Calls Try.prog 15 #[.pointer (some ⟨b, 0, none⟩)] w (SetPost W b N R w) := by
  go_enter Try.func15, Try.ntmps15
  go_wp2
  go_loopw [3, 4] (fun v3 v4 wr => SetRel W b N R w v3 v4 wr) (fun _ v4 _ => 5 - (intOf v4).toNat)
  case atStart => exact ⟨0, [], none, 0, by omega, List.Sublist.slnil, rfl, rfl, o.slc_nil, Calm.refl w⟩
  case round =>
    obtain ⟨i, l, a, cap, hi, hl, rfl, rfl, oR, kR⟩ := hrel
    by_cases hlt : i < 5
    · have o1 := (oR.up 2).up 2
      go_wp2_with fail
      refine (next_spec W b (N + i) 3 _ _ (by omega) (by omega) (by omega) o1).mono ?_
      rintro e2 w2 ⟨x, hx0, hx1, rfl, o2, k2⟩
      by_cases hx : 0 < x
      · obtain ⟨p, hp⟩ : ∃ p, fullSet[i]? = some p := ⟨_, List.getElem?_eq_getElem hlt⟩
        have hp2 : [Value.int .i64 1, .int .i64 2, .int .i64 3, .int .i64 1, .int .i64 16][i]? = some (.int .i64 p.2) ∧ p.1 = (i : Int) := by
          have : i = 0 ∨ i = 1 ∨ i = 2 ∨ i = 3 ∨ i = 4 := by omega
          rcases this with rfl | rfl | rfl | rfl | rfl <;> (simp [fullSet] at hp; subst hp; exact ⟨rfl, rfl⟩)
        have hll : l.length ≤ i := by have := hl.length_le; rw [List.length_take] at this; omega
        have htk := take_full hp
        obtain ⟨f, wt⟩ := p
        obtain ⟨hp3, rfl⟩ := hp2
        dsimp only at hp3
        have o3 := (o2.up 2).alloc (.cells #[.int .i64 1, .int .i64 2, .int .i64 3, .int .i64 1, .int .i64 16] 3)
        have t0 := Own.cell (T := 3) (vs := [.int .i64 1, .int .i64 2, .int .i64 3, .int .i64 1, .int .i64 16]) o3 i hp3
        have o4 := o3.drop.alloc (.cells #[.int .i64 (i : Int), .int .i64 wt] 40)
        simp only [World.size_alloc] at o4
        have H1 := Lib.hid hp
        have H2 := Lib.hid htk
        have H3 := Lib.hid hl
        clear hp htk hl hp3
        go_wp2_with (at_builtin; refine wpList_append_slc rfl _ _ rfl Try.partT rfl (o4.up 1) ⟨w2.heap.size + 1, 0, none⟩ 1 1 [.int .i64 (i : Int), .int .i64 wt] rfl rfl ?c1 ?c2 ?c3 ?c4 ?c5)
        case c1 => exact Own.news (T := 40) o4
        case c2 => intro u hu; simp at hu; rcases hu with rfl | rfl <;> rfl
        case c3 => unfold maxLen; omega
        case c4 => omega
        case c5 =>
          intro a' cap' w5 o5 k5
          go_wp2
          go_roundw
          case rel =>
            refine ⟨i + 1, l ++ [((i : Int), wt)], a', cap', by omega, ?_, by go_num, by rw [List.length_append]; rfl, ?_, kR.trans (k2.trans ⟨k5.os, k5.tape, k5.output⟩)⟩
            · rw [H2.out]; exact H3.out.append (List.Sublist.refl _)
            · rw [flat_append, List.length_append]
              exact (o5.up 1).drop
          case measure => simp [intOf]; omega
      · have hlt2 : i < fullSet.length := hlt
        have H3 := Lib.hid hl
        clear hl
        go_wp2
        go_roundw
        case rel =>
          refine ⟨i + 1, l, a, cap, by omega, ?_, by go_num, rfl, o2.up 2, kR.trans k2⟩
          exact H3.out.trans (List.take_sublist_take_left (by omega))
        case measure => simp [intOf]; omega
    · have h5 : i = 5 := by omega
      subst h5
      have H3 := Lib.hid hl
      clear hl
      go_wp2
      go_ret
      exact ⟨l, a, cap, H3.out, rfl, oR, kR⟩

def lenL : List Int := [100, 1, 60, 1500, 4096, 100, 700]
def LenPost (W : World) (b N : Nat) (R : List SP) (w : World) (e : Ending) (w' : World) : Prop :=
  ∃ x : Int, 1 ≤ x ∧ x ≤ 4096 ∧ e = .returned (.int .i64 x) ∧ Own w' (Ch W b (N + 1) :: old W :: R) ∧ Calm w w'

set_option maxHeartbeats 800000 in
theorem length_spec (N : Nat) (hN : (N : Int) ≤ 900000000000) (o : Own w (Ch W b N :: old W :: R)) :
    Calls Try.prog 19 #[.pointer (some ⟨b, 0, none⟩)] w (LenPost W b N R w) := by
  have o1 : Own (w.alloc (.cells (lenL.map (Value.int .i64)).toArray 3)) (cel w.heap.size 3 (lenL.map (Value.int .i64)) :: Ch W b N :: old W :: R) := o.alloc _
  have o2 := (o1.up 2).up 2
  go_enter Try.func19, Try.ntmps19
  go_wp2_with fail
  refine (next_spec W b N 7 _ _ (by omega) (by omega) (by omega) o2).mono ?_
  rintro e2 w2 ⟨x, hx0, hx1, rfl, o3, k3⟩
  obtain ⟨j, rfl⟩ : ∃ j : Nat, x = (j : Int) := ⟨x.toNat, by omega⟩
  have hj : j < lenL.length := by show j < 7; omega
  have c := Own.cell (v := .int .i64 lenL[j]) (o3.up 2) j (by rw [List.getElem?_map, List.getElem?_eq_getElem hj]; rfl)
  have hr : 1 ≤ lenL[j] ∧ lenL[j] ≤ 4096 := by
    have : ∀ y ∈ lenL, 1 ≤ y ∧ y ≤ 4096 := by decide
    exact this _ (List.getElem_mem hj)
  generalize lenL[j] = y at *
  go_wp2
  go_ret
  exact ⟨y, hr.1, hr.2, rfl, (o3.up 2).drop, ⟨k3.os, k3.tape, k3.output⟩⟩

/-- Eligible, called with a list that stands in the text. -/
theorem eligible_ok {reb tm : Int} {el tg : List (Int × Int)} (a : Option Addr) (n c : Nat) (l : List (Int × Int)) (hn : n = l.length) (hn2 : n ≤ 1000) (hb : eligBad (-1) l = false)
    (o : Own w (slc 40 2 a n c (flat part l) :: OrderR b reb el tg tm :: R)) :
    Calls Try.prog 16 #[.pointer (some ⟨b, 0, none⟩), .slice a n c] w
      (Ret (.int .i64 0) (slc 40 2 a n c (flat part l) :: OrderR b reb (eligEl l []) (eligTg el tm l tg) tm :: R) w) :=
  (eligible_spec a n c l hn hn2 o).mono fun e w' h => by unfold EligRes at h; rw [hb] at h; exact h

theorem slc_new {e : TypeId} {size n : Nat} {vs : List Value} (o : Own w (cel b e vs :: R)) (h : vs.length = n * size) (hn : n ≤ 1000) : Own w (slc e size (some ⟨b, 0, none⟩) n n vs :: R) :=
  Own.slc.2 (.inr ⟨b, [], rfl, Nat.le_refl _, by unfold maxLen; omega, h, by simp, by rw [List.append_nil]; exact o⟩)

theorem serve_low {reb tm : Int} {el tg : List (Int × Int)} (f len : Int) (tg1 : List (Int × Int)) (tm1 : Int) (hk : KeyOk el) (hn : el.length ≤ 1000) (hu : Uniq tg) (hv : ∀ x ∈ tg, 0 ≤ x.2 ∧ x.2 ≤ 1099511627776) (ht : 0 ≤ tm ∧ tm ≤ 1099511627776)
    (h0 : servE el tg f len = 0) (h1 : servTg el tg f len = tg1) (h2 : servTm tg tm f = tm1) (h3 : servBy el tg tm f len < reb) (o : Own w (OrderR b reb el tg tm :: R)) :
    Calls Try.prog 18 #[.pointer (some ⟨b, 0, none⟩), .int .i64 f, .int .i64 len] w (Ret (.int .i64 0) (OrderR b reb el tg1 tm1 :: R) w) :=
  (serve_spec f len hk hn hu hv ht o).mono fun e w' h => by
    unfold ServPost at h
    rw [if_neg (by rw [h0]; simp), if_pos h3, h1, h2] at h
    exact h

set_option maxHeartbeats 3200000 in
set_option maxRecDepth 100000 in
theorem awake23_spec (o : Own w R) : Calls Try.prog 22 #[] w (Ret (.bool true) R w) := by
  go_enter Try.func22, Try.ntmps22
  go_wp2_with fail
  refine (compNew_spec 1099511627776 (by decide) (by decide) o).mono ?_
  rintro e1 w1 ⟨b, rfl, o1, k1⟩
  have o2 := slc_new (size := 2) (n := 1) (o1.alloc (.cells #[.int .i64 0, .int .i64 1] 40)) rfl (by decide)
  go_wp2_with fail
  refine (eligible_ok (some ⟨w1.heap.size, 0, none⟩) 1 1 [(0, 1)] rfl (by decide) (by decide) o2).mono ?_
  rintro e2 w2 ⟨rfl, o3, k3⟩
  have o4 := o3.drop
  have p1 : eligEl [(0, 1)] [] = [(0, 1)] := by decide
  have p2 : eligTg [] 0 [(0, 1)] [] = [(0, 0)] := by decide
  rw [p1, p2] at o4
  go_wp2_with fail
  have hk : KeyOk [((0 : Int), (1 : Int))] := by unfold KeyOk Uniq; decide
  have hs : sortK [((0 : Int), (1 : Int))] = [0] := by simp [sortK]
  refine (serve_low 0 100 [(0, 72072000)] 0 hk (by decide) (by unfold Uniq; decide) (by decide) (by decide) (by decide) (by decide) (by decide) (by unfold servBy leastF; rw [hs]; decide) o4).mono ?_
  rintro e5 w5 ⟨rfl, o5, k5⟩
  go_wp2_with fail
  refine (serve_low 0 100 [(0, 144144000)] 72072000 hk (by decide) (by unfold Uniq; decide) (by decide) (by decide) (by decide) (by decide) (by decide) (by unfold servBy leastF; rw [hs]; decide) o5).mono ?_
  rintro e6 w6 ⟨rfl, o6, k6⟩
  have o7 := slc_new (size := 2) (n := 2) (o6.alloc (.cells #[.int .i64 0, .int .i64 1, .int .i64 1, .int .i64 1] 40)) rfl (by decide)
  go_wp2_with fail
  refine (eligible_ok (some ⟨w6.heap.size, 0, none⟩) 2 2 [(0, 1), (1, 1)] rfl (by decide) (by decide) o7).mono ?_
  rintro e8 w8 ⟨rfl, o8, k8⟩
  have o9 := o8.drop
  have p3 : eligTg [(0, 1)] 72072000 [(0, 1), (1, 1)] [(0, 144144000)] = [(0, 144144000), (1, 72072000)] := by decide
  rw [p3] at o9
  go_wp2_with fail
  refine (compTag_spec 1 o9).mono ?_
  rintro e10 w10 ⟨rfl, o10, k10⟩
  have p4 : tget [(0, 144144000), (1, 72072000)] 1 = 72072000 := by decide
  rw [p4]
  go_wp2_with fail
  refine (compTime_spec o10).mono ?_
  rintro e11 w11 ⟨rfl, o11, k11⟩
  go_wp2
  go_ret
  exact ⟨rfl, o11.drop, k1.trans (k3.al.trans (k5.trans (k6.trans (k8.al.trans (k10.trans k11)))))⟩
end
end Go.Proofs.Ytnandakoigmknaa
