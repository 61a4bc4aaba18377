/- The order of comp: Select, Eligible, Forget. -/
import Derived.Test.YtnandakoigmknaaComp
import Derived.Maps.OwnSet
namespace Go.Proofs.Ytnandakoigmknaa
open Go.RowKit
open SP

section
variable {W w w' : World} {b : Nat} {reb tm : Int} {el tg : List (Int × Int)} {R : List SP}

theorem leastL_range (tg : List (Int × Int)) : ∀ (ks : List Int) (best : Int), (∀ k ∈ ks, 0 ≤ k) → leastL tg ks best = best ∨ leastL tg ks best ∈ ks
  | [], best, _ => .inl rfl
  | f :: ks, best, h => by
    unfold leastL
    rcases leastL_range tg ks (if best < 0 ∨ tget tg f < tget tg best then f else best) (fun k hk => h k (by simp [hk])) with h1 | h1
    · rw [h1]
      split
      · exact .inr (by simp)
      · exact .inl rfl
    · exact .inr (by simp [h1])

def selV (el tg : List (Int × Int)) : Value := if leastF el tg < 0 then .tuple #[.int .i64 0, .int .i64 5] else .tuple #[.int .i64 (leastF el tg), .int .i64 0]

set_option maxHeartbeats 800000 in
set_option maxRecDepth 100000 in
theorem select_spec (hk : KeyOk el) (hn : el.length ≤ 1000) (o : Own w (OrderR b reb el tg tm :: R)) :
    Calls Try.prog 17 #[.pointer (some ⟨b, 0, none⟩)] w (Ret (selV el tg) (OrderR b reb el tg tm :: R) w) := by
  have hls := least_spec hk hn o
  unfold selV
  generalize leastF el tg = x at *
  by_cases h : x < 0
  · rw [if_pos h]
    go_enter Try.func17, Try.ntmps17
    go_wp2_with fail
    refine hls.mono ?_
    rintro e1 w1 ⟨rfl, o1, k1⟩
    go_wp2
    go_ret2
    exact ⟨rfl, o1, k1⟩
  · rw [if_neg h]
    go_enter Try.func17, Try.ntmps17
    go_wp2_with fail
    refine hls.mono ?_
    rintro e1 w1 ⟨rfl, o1, k1⟩
    go_wp2
    go_ret2
    exact ⟨rfl, o1, k1⟩

/-! ### Eligible -/
def part (p : Int × Int) : List Value := [.int .i64 p.1, .int .i64 p.2]
theorem part_len (p : Int × Int) : (part p).length = 2 := rfl
theorem Try.partT : ElemT Try.prog 31 40 2 16 := ElemT.mk' (z := .agg #[.int .i64 0, .int .i64 0]) Try.underlying31 (by kernel_rfl) rfl (by decide)

theorem part_cells {l : List (Int × Int)} {a : Option Addr} {n c : Nat} (o : Own w (slc 40 2 a n c (flat part l) :: R)) {i : Nat} {y : Int × Int} (hy : l[i]? = some y) (hn : 0 < n) :
    ∃ g, a = some ⟨g, 0, none⟩ ∧ w.cell? ⟨g, i * 2, none⟩ = some (.int .i64 y.1) ∧ w.cell? ⟨g, i * 2 + 1, none⟩ = some (.int .i64 y.2) := by
  obtain ⟨g, h, hc, hf, hg⟩ := o.slc_cell hn
  exact ⟨g, h, by simpa using hc (i * 2 + 0) _ (flat_get part_len l i 0 y hy (by omega)), hc (i * 2 + 1) _ (flat_get part_len l i 1 y hy (by omega))⟩

def eligBad : Int → List (Int × Int) → Bool
  | _, [] => false
  | last, p :: l => decide (p.1 ≤ last) || decide (32 ≤ p.1) || decide (p.2 < 1) || decide (16 < p.2) || eligBad p.1 l
def eligTg (el : List (Int × Int)) (tm : Int) : List (Int × Int) → List (Int × Int) → List (Int × Int)
  | [], tg => tg
  | p :: l, tg => eligTg el tm l (if (mget el p.1).isSome then tg else mput tg p.1 (max (tget tg p.1) tm))
def eligEl : List (Int × Int) → List (Int × Int) → List (Int × Int)
  | [], m => m
  | p :: l, m => eligEl l (mput m p.1 p.2)

def EligRes (b : Nat) (reb tm : Int) (el tg : List (Int × Int)) (l : List (Int × Int)) (S : SP) (R : List SP) (w : World) (e : Ending) (w' : World) : Prop :=
  if eligBad (-1) l = true then Ret (.int .i64 1) (S :: OrderR b reb el tg tm :: R) w e w' else Ret (.int .i64 0) (S :: OrderR b reb (eligEl l []) (eligTg el tm l tg) tm :: R) w e w'

def ElRel1 (b : Nat) (reb tm : Int) (el tg l : List (Int × Int)) (B : Bool) (S : SP) (R : List SP) (w : World) (v5 v15 : Value) (wr : World) : Prop :=
  ∃ (i : Nat) (last : Int), v15 = .int .i64 (i : Int) ∧ v5 = .int .i64 last ∧ i ≤ l.length ∧ eligBad last (l.drop i) = B ∧ Own wr (S :: OrderR b reb el tg tm :: R) ∧ Calm w wr

def ElRel2 (b : Nat) (reb tm : Int) (el l : List (Int × Int)) (TG EL : List (Int × Int)) (eb : Nat) (S : SP) (R : List SP) (w : World) (v44 : Value) (wr : World) : Prop :=
  ∃ (i : Nat) (tg' m : List (Int × Int)), v44 = .int .i64 (i : Int) ∧ i ≤ l.length ∧ eligTg el tm (l.drop i) tg' = TG ∧ eligEl (l.drop i) m = EL ∧ Own wr (S :: OrderR b reb el tg' tm :: mpI (Value.int .i64) eb m :: R) ∧ Calm w wr

theorem eligBad_step {last : Int} {p : Int × Int} {l : List (Int × Int)} : eligBad last (p :: l) = true ↔ p.1 ≤ last ∨ 32 ≤ p.1 ∨ p.2 < 1 ∨ 16 < p.2 ∨ eligBad p.1 l = true := by
  simp [eligBad, or_assoc]

theorem drop_cons {α : Type} {l : List α} {i : Nat} {x : α} (h : l[i]? = some x) : l.drop i = x :: l.drop (i + 1) := by
  obtain ⟨h1, h2⟩ := List.getElem?_eq_some_iff.1 h
  rw [List.drop_eq_getElem_cons h1, h2]

/-- The list of parts that a slice at a holds, read behind S. -/
def PartsAt (S : SP) (a : Option Addr) (l : List (Int × Int)) : Prop := ∀ (w : World) (R : List SP), Own w (S :: R) → ∀ (i : Nat) (y : Int × Int), l[i]? = some y →
  ∃ g so, a = some ⟨g, so, none⟩ ∧ w.cell? ⟨g, so + i * 2, none⟩ = some (.int .i64 y.1) ∧ w.cell? ⟨g, so + i * 2 + 1, none⟩ = some (.int .i64 y.2)
theorem partsAt_slc (a : Option Addr) (n c : Nat) (l : List (Int × Int)) (hn : n = l.length) : PartsAt (slc 40 2 a n c (flat part l)) a l := by
  intro w R o i y hy
  have := (List.getElem?_eq_some_iff.1 hy).1
  obtain ⟨g, h1, h2, h3⟩ := part_cells o hy (by omega)
  exact ⟨g, 0, h1, by rw [Nat.zero_add]; exact h2, by rw [Nat.zero_add]; exact h3⟩

set_option maxHeartbeats 3200000 in
set_option maxRecDepth 100000 in
theorem eligibleG_spec (S : SP) (a : Option Addr) (n c : Nat) (l : List (Int × Int)) (hS : PartsAt S a l) (hn : n = l.length) (hn2 : n ≤ 1000) (o : Own w (S :: OrderR b reb el tg tm :: R)) :
    Calls Try.prog 16 #[.pointer (some ⟨b, 0, none⟩), .slice a n c] w (EligRes b reb tm el tg l S R w) := by
  have hmm := @run_makeMap Try.prog
  have hT : ElRel1 b reb tm el tg l (eligBad (-1) l) S R w (.int .i64 (-1)) (.int .i64 0) w := ⟨0, -1, rfl, rfl, by omega, rfl, o, Calm.refl w⟩
  generalize hBB : eligBad (-1) l = B at *
  have HBB := Lib.hid hBB
  clear hBB
  have Hn := Lib.hid hn
  clear hn
  go_enter Try.func16, Try.ntmps16
  go_wp2
  go_loopw [5, 15] (fun v5 v15 wr => ElRel1 b reb tm el tg l B S R w v5 v15 wr) (fun _ v15 _ => n - (intOf v15).toNat)
  case atStart => exact hT
  case round =>
    obtain ⟨i, last, rfl, rfl, hi, hB, oR, kR⟩ := hrel
    have HB := Lib.hid hB
    clear hB
    by_cases hlt : i < n
    · obtain ⟨p, hp⟩ : ∃ p, l[i]? = some p := ⟨_, List.getElem?_eq_getElem (by have := Hn.out; omega)⟩
      obtain ⟨g, so, rfl, d0, d1⟩ := hS _ _ oR i _ hp
      have hd := drop_cons hp
      have HD := Lib.hid hd
      obtain ⟨x, y⟩ := p
      dsimp only at d0 d1
      clear hd hp
      have oA := (oR.alloc (.cells #[.int .i64 x, .int .i64 y] 40))
      have e0 := Own.cell (T := 40) (vs := [.int .i64 x, .int .i64 y]) oA 0
      have e1 := Own.cell (T := 40) (vs := [.int .i64 x, .int .i64 y]) oA 1
      by_cases h1 : x ≤ last
      · go_wp2
        go_ret
        have this : eligBad (-1) l = true := HBB.out.trans (by rw [← HB.out, HD.out, eligBad_step]; exact .inl h1)
        rw [EligRes, if_pos this]
        exact ⟨rfl, oA.drop, ⟨kR.os, kR.tape, kR.output⟩⟩
      · by_cases h2 : 32 ≤ x
        · go_wp2
          go_ret
          have this : eligBad (-1) l = true := HBB.out.trans (by rw [← HB.out, HD.out, eligBad_step]; exact .inr (.inl h2))
          rw [EligRes, if_pos this]
          exact ⟨rfl, oA.drop, ⟨kR.os, kR.tape, kR.output⟩⟩
        · by_cases h3 : y < 1
          · go_wp2
            go_ret
            have this : eligBad (-1) l = true := HBB.out.trans (by rw [← HB.out, HD.out, eligBad_step]; exact .inr (.inr (.inl h3)))
            rw [EligRes, if_pos this]
            exact ⟨rfl, oA.drop, ⟨kR.os, kR.tape, kR.output⟩⟩
          · by_cases h4 : 16 < y
            · go_wp2
              go_ret
              have this : eligBad (-1) l = true := HBB.out.trans (by rw [← HB.out, HD.out, eligBad_step]; exact .inr (.inr (.inr (.inl h4))))
              rw [EligRes, if_pos this]
              exact ⟨rfl, oA.drop, ⟨kR.os, kR.tape, kR.output⟩⟩
            · go_wp2
              go_roundw
              case rel =>
                refine ⟨i + 1, x, by go_num, rfl, by have := Hn.out; omega, ?_, oA.drop, ⟨kR.os, kR.tape, kR.output⟩⟩
                rw [← HB.out, HD.out]
                rw [Bool.eq_iff_iff, eligBad_step]
                constructor
                · exact fun h => .inr (.inr (.inr (.inr h)))
                · rintro (h | h | h | h | h)
                  · exact absurd h h1
                  · exact absurd h h2
                  · exact absurd h h3
                  · exact absurd h h4
                  · exact h
              case measure => simp [intOf]; omega
    · have hBf : eligBad (-1) l = false := by rw [HBB.out, ← HB.out, List.drop_eq_nil_of_le (by have := Hn.out; omega)]; rfl
      have HBf := Lib.hid hBf
      clear hBf
      have o2 := ((oR.mpI_made (f := Value.int .i64) (α := Int)).up 2).up 2
      have hT2 : ElRel2 b reb tm el l (eligTg el tm l tg) (eligEl l []) wr.heap.size S R w (.int .i64 0) (wr.alloc (.map #[] 0)) :=
        ⟨0, tg, [], rfl, by omega, rfl, rfl, o2, ⟨kR.os, kR.tape, kR.output⟩⟩
      generalize h1 : eligTg el tm l tg = TG at *
      generalize h2 : eligEl l [] = EL at *
      have H1 := Lib.hid h1
      have H2 := Lib.hid h2
      clear h1 h2
      clear o2 HB hi
      obtain ⟨nb, hnb⟩ : ∃ nb, nb = wr.heap.size := ⟨_, rfl⟩
      have HNB := Lib.hid hnb
      clear hnb
      go_wp2
      go_loopw [44] (fun v44 wr' => ElRel2 b reb tm el l TG EL wr.heap.size S R w v44 wr') (fun v44 _ => n - (intOf v44).toNat)
      case atStart => exact hT2
      case round =>
        clear hT2 hT oR kR hmm
        obtain ⟨i, tg', m, rfl, hi, hTG, hEL, oR, kR⟩ := hrel
        have HTG := Lib.hid hTG
        have HEL := Lib.hid hEL
        clear hTG hEL
        by_cases hlt : i < n
        · obtain ⟨p, hp⟩ : ∃ p, l[i]? = some p := ⟨_, List.getElem?_eq_getElem (by have := Hn.out; omega)⟩
          obtain ⟨g, so, rfl, d0, d1⟩ := hS _ _ oR i _ hp
          have hd := drop_cons hp
          have HD := Lib.hid hd
          obtain ⟨x, y⟩ := p
          dsimp only at d0 d1
          clear hd hp
          obtain ⟨eb', tb', oB⟩ := OrderR.iff.1 (oR.up 1)
          have oA := (oB.alloc (.cells #[.int .i64 x, .int .i64 y] 40))
          have e0 := fun k => Own.cell (T := 40) (vs := [.int .i64 x, .int .i64 y]) (oA.drewN k) 0
          have e1 := fun k => Own.cell (T := 40) (vs := [.int .i64 x, .int .i64 y]) (oA.drewN k) 1
          have hbl := oB.celLt
          have hfr := oB.frozen
          have c1 := oB.cell 1
          have c2 := oB.cell 2
          have c3 := oB.cell 3
          have l1 := fun n => lookII eb' ((oA.up 2).drewN n) x true
          simp only [if_true] at l1
          cases hin : (mget el x).isSome with
          | true =>
            rw [hin] at l1
            go_wp2
            go_quiet (fail)
            go_wp2_with (at_mapUpdate; refine wpList_mapUpdate_mpI rfl _ _ _ rfl Try.underlying80 Try.underlying3 ((oA.drewN _).up 5) x y rfl rfl rfl ?_; intro w1 o6 k6)
            go_roundw
            case rel =>
              refine ⟨i + 1, tg', mput m x y, by go_num, by have := Hn.out; omega, ?_, ?_, ?_, kR.trans ⟨k6.os, k6.tape, k6.output⟩⟩
              · rw [← HTG.out, HD.out, eligTg, if_pos hin]
              · rw [← HEL.out, HD.out]; rfl
              · exact (OrderR.iff.2 ⟨eb', tb', ((((o6.up 1).drop.up 4).up 4).up 4).up 4⟩).up 1
            case measure => simp [intOf]; omega
          | false =>
            rw [hin] at l1
            have l2 := fun n => lookIL tb' ((oA.up 3).drewN n) x false
            simp only [Bool.false_eq_true, if_false] at l2
            go_wp2
            go_quiet (fail)
            go_wp2
            refine wp_region_tail 18 (by kernel_rfl) (by kernel_rfl) ?_
            simp only [List.take_succ_cons, List.take_zero, List.drop_succ_cons, List.drop_zero]
            repeat still_step
            refine wpStill_nil ?_
            go_wp2_with (at_mapUpdate; refine wpList_mapUpdate_mpI rfl _ _ _ rfl Try.underlying81 Try.underlying3 (((oA.up 3).drewN _).drew) x (max (tget tg' x) tm) rfl rfl rfl ?c1)
            case c1 =>
            intro w1 o6 k6
            have q := o6.up 1
            have q0 := Own.cell (T := 40) (vs := [.int .i64 x, .int .i64 y]) q 0
            have q1 := Own.cell (T := 40) (vs := [.int .i64 x, .int .i64 y]) q 1
            go_wp2_with (at_mapUpdate; refine wpList_mapUpdate_mpI rfl _ _ _ rfl Try.underlying80 Try.underlying3 (q.up 5) x y rfl rfl rfl ?_; intro w2 o7 k7)
            go_roundw
            case rel =>
              refine ⟨i + 1, mput tg' x (max (tget tg' x) tm), mput m x y, by go_num, by have := Hn.out; omega, ?_, ?_, ?_, kR.trans (Calm.trans ⟨k6.os, k6.tape, k6.output⟩ k7)⟩
              · rw [← HTG.out, HD.out, eligTg, if_neg (by rw [hin]; simp)]
              · rw [← HEL.out, HD.out]; rfl
              · have o8 := (o7.up 1).drop
                exact (OrderR.iff.2 ⟨eb', tb', (((o8.up 4).up 2).up 4).up 4⟩).up 1
            case measure => simp [intOf]; omega
        · obtain ⟨eb', tb', oB⟩ := OrderR.iff.1 (oR.up 1)
          have hbl := oB.celLt
          have hfr := oB.frozen
          have c1 := oB.cell 1
          go_wp2
          go_ret
          have hdn : l.drop i = [] := List.drop_eq_nil_of_le (by have := Hn.out; omega)
          rw [EligRes, if_neg (by rw [HBf.out]; simp)]
          refine ⟨rfl, ?_, ⟨kR.os, kR.tape, kR.output⟩⟩
          have e1 : tg' = TG := by rw [← HTG.out, hdn]; rfl
          have e2 : m = EL := by rw [← HEL.out, hdn]; rfl
          rw [H1.out, H2.out, ← e1, ← e2]
          have o9 := oB.setCell 1 (.map (some nb))
          rw [HNB.out] at o9
          exact (OrderR.iff.2 ⟨_, tb', (((((o9.up 1).drop).up 2).up 2).up 3).up 3⟩).up 1

theorem eligible_spec (a : Option Addr) (n c : Nat) (l : List (Int × Int)) (hn : n = l.length) (hn2 : n ≤ 1000) (o : Own w (slc 40 2 a n c (flat part l) :: OrderR b reb el tg tm :: R)) :
    Calls Try.prog 16 #[.pointer (some ⟨b, 0, none⟩), .slice a n c] w (EligRes b reb tm el tg l (slc 40 2 a n c (flat part l)) R w) :=
  eligibleG_spec _ a n c l (partsAt_slc a n c l hn) hn hn2 o

theorem forget_spec (k : Int) (o : Own w (OrderR b reb el tg tm :: R)) :
    Calls Try.prog 46 #[.pointer (some ⟨b, 0, none⟩), .int .i64 k] w (Ret (.tuple #[]) (OrderR b reb (mdel el k) (mdel tg k) tm :: R) w) := by
  obtain ⟨eb, tb, o1⟩ := OrderR.iff.1 o
  have c1 := o1.cell 1
  go_enter Try.func46, Try.ntmps46
  go_wp2_with (at_delete; refine wpList_delete_mpI rfl _ _ rfl Try.underlying80 Try.underlying3 (o1.up 1) k rfl rfl ?c1)
  case c1 =>
  intro w1 o2 k2
  have c2 := (o2.up 1).cell 2
  go_wp2_with (at_delete; refine wpList_delete_mpI rfl _ _ rfl Try.underlying81 Try.underlying3 (o2.up 2) k rfl rfl ?c2)
  case c2 =>
  intro w2 o3 k3
  go_wp2
  go_end0
  exact ⟨rfl, OrderR.iff.2 ⟨eb, tb, (o3.up 1).up 2⟩, k2.trans k3⟩
end
end Go.Proofs.Ytnandakoigmknaa
