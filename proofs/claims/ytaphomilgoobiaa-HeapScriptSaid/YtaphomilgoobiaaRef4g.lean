/- The law HeapScript: one call on the heap and on the reference. -/
import Derived.Test.YtaphomilgoobiaaRef4f
namespace Go.Proofs.Ytaphomilgoobiaa
open Go.RowKit
open SP
section
variable {W w w' : World} {b rb cb : Nat} {cap : Int} {L : List (Int × Int)} {R : List SP}
def Act4Post (W : World) (b rb cb : Nat) (cap : Int) (N : Nat) (R : List SP) (w : World) (e : Ending) (w' : World) : Prop :=
  ∃ L' : List (Int × Int), (L'.length : Int) ≤ cap ∧ Ret (.bool true) (HeapA b cap L' :: RefH rb cap L' :: Ch W cb N :: old W :: R) w e w'
def IdMid (W : World) (b rb cb : Nat) (cap : Int) (L : List (Int × Int)) (N : Nat) (R : List SP) (w : World) (v7 : Value) (wc : World) : Prop :=
  ∃ id : Int, v7 = .int .i64 id ∧ Own wc (HeapA b cap L :: RefH rb cap L :: Ch W cb N :: old W :: R) ∧ Calm w wc
theorem least_ex {L : List (Int × Int)} (h : L ≠ []) : ∃ x, LeastE x L := by
  have hp := sortE_perm L
  cases hs : sortE L with
  | nil => rw [hs] at hp; exact absurd hp.symm.eq_nil h
  | cons x M =>
    have hw := sortE_pw L
    rw [hs] at hp hw
    refine ⟨x, hp.mem_iff.1 List.mem_cons_self, fun y hy => ?_⟩
    rcases List.mem_cons.1 (hp.mem_iff.2 hy) with rfl | h3
    · exact leE.refl _
    · exact (List.pairwise_cons.1 hw).1 y h3
theorem pushL_len {id key : Int} (h : (L.length : Int) ≤ cap) : ((pushL cap id key L).length : Int) ≤ cap := by
  unfold pushL
  by_cases hp : pushE cap id L = 0
  · rw [if_pos hp]
    have : (L.length : Int) ≠ cap := fun he => by
      unfold pushE at hp
      rw [if_pos he] at hp
      by_cases h1 : id < 0 ∨ 4096 ≤ id
      · rw [if_pos h1] at hp; omega
      · rw [if_neg h1] at hp
        by_cases h2 : id ∈ idsE L
        · rw [if_pos h2] at hp; omega
        · rw [if_neg h2] at hp; omega
    rw [List.length_append, List.length_singleton]
    omega
  · rw [if_neg hp]; exact h
theorem setK_len (id key : Int) (L : List (Int × Int)) : (setK id key L).length = L.length := by unfold setK; simp
theorem delK_len (id : Int) (L : List (Int × Int)) : (delK id L).length ≤ L.length := List.length_filter_le _ _
set_option maxHeartbeats 6400000 in
set_option maxRecDepth 100000 in
theorem act4_spec (N : Nat) (hN : (N : Int) ≤ 800000000000) (hcap : cap ≤ 6) (hL : (L.length : Int) ≤ cap) (o : Own w (HeapA b cap L :: RefH rb cap L :: Ch W cb N :: old W :: R)) :
    Calls Try.prog 21 #[.pointer (some ⟨cb, 0, none⟩), .pointer (some ⟨b, 0, none⟩), .pointer (some ⟨rb, 0, none⟩)] w (Act4Post W b rb cb cap (N + 7) R w) := by
  have hnd := HeapA.nodup o
  have hl9 : L.length ≤ 900000 := by omega
  have hl9I : (L.length : Int) ≤ 900000 := by omega
  have HND := Lib.hid hnd
  clear hnd
  go_enter Try.func21, Try.ntmps21
  go_wp2_with fail
  refine (next_spec W cb N 8 _ _ (by omega) (by omega) (by omega) (o.re [2, 3, 0, 1])).mono ?_
  rintro e1 w1 ⟨id0, hi0, hi1, rfl, o1, k1⟩
  go_wp2_with fail
  refine (int64_spec (W := W) cb (N + 1) (by omega) o1).mono ?_
  rintro e2 w2 ⟨key, hk0, hk1, rfl, o2, k2⟩
  go_wp2_with fail
  refine (next_spec W cb (N + 1 + 3) 9 _ _ (by omega) (by omega) (by omega) o2).mono ?_
  rintro e3 w3 ⟨q, hq0, hq1, rfl, o3, k3⟩
  go_upto_if 31 with fail
  go_cut [7] (fun v7 wc => IdMid W b rb cb cap L (N + 6) R w v7 wc)
  case first =>
    by_cases hq : q = 8
    · subst hq
      have o4 := (o3.alloc (.cells #[.int .i64 (-1), .int .i64 4096, .int .i64 4095] 3)).re [1, 2, 0, 3, 4]
      go_wp2_with fail
      refine (next_spec W cb (N + 1 + 3 + 1) 3 _ _ (by omega) (by omega) (by omega) o4).mono ?_
      rintro e5 w5 ⟨x, hx0, hx1, rfl, o5, k5⟩
      obtain ⟨j, rfl⟩ : ∃ j : Nat, x = (j : Int) := ⟨x.toNat, by omega⟩
      obtain ⟨z, hz⟩ : ∃ z : Int, [Value.int .i64 (-1), .int .i64 4096, .int .i64 4095][j]? = some (.int .i64 z) := by
        have : j = 0 ∨ j = 1 ∨ j = 2 := by omega
        rcases this with rfl | rfl | rfl <;> exact ⟨_, rfl⟩
      have c := Own.cell (T := 3) (vs := [.int .i64 (-1), .int .i64 4096, .int .i64 4095]) (o5.up 2) j hz
      clear hz
      go_wp2
      go_meet
      exact ⟨z, rfl, o5.re [2, 3, 4, 0, 1] 1, k1.trans (k2.trans (k3.trans k5.al))⟩
    · have hqb : (q == 8) = false := by rw [beq_eq_false_iff_ne]; exact hq
      go_wp2
      go_meet
      exact ⟨id0, rfl, ((Ch.more (M := N + 6) o3).re [2, 3, 0, 1]), k1.trans (k2.trans k3)⟩
  case rest =>
    obtain ⟨id, rfl, oI, kI⟩ := hcut
    clear o o1 o2 o3 k1 k2 k3
    go_wp2_with fail
    refine (next_spec W cb (N + 6) 8 _ _ (by omega) (by omega) (by omega) (oI.re [2, 3, 0, 1])).mono ?_
    rintro e4 w4 ⟨s, hs0, hs1, rfl, o4, k4⟩
    have oA := o4.re [2, 3, 0, 1]
    have kA := kI.trans k4
    clear o4 k4 oI kI
    have hsv : s = 0 ∨ s = 1 ∨ s = 2 ∨ s = 3 ∨ s = 4 ∨ s = 5 ∨ s = 6 ∨ s = 7 := by omega
    have hpl := pushL_len (id := id) (key := key) hL
    have HPL := Lib.hid hpl
    clear hpl hs0 hs1
    by_cases hs3 : s = 0 ∨ s = 1 ∨ s = 2
    · clear hsv
      rcases hs3 with rfl | rfl | rfl
      all_goals (
        go_wp2_with fail
        refine (pushA_spec (L := L) id key hl9I oA).mono ?_
        rintro e5 w5 ⟨rfl, o5, k5⟩
        go_wp2_with fail
        refine (pushR_spec (L := L) id key hl9 hL o5.swap).mono ?_
        rintro e6 w6 ⟨rfl, o6, k6⟩
        generalize pushE cap id L = pe
        go_wp2
        go_ret
        exact ⟨_, HPL.out, rfl, o6.swap, kA.trans (k5.trans k6)⟩)
    · have hs4 : s = 3 ∨ s = 4 ∨ s = 5 ∨ s = 6 ∨ s = 7 := by omega
      clear hsv hs3 HPL
      rcases hs4 with rfl | rfl | rfl | rfl | rfl
      · by_cases hm : id ∈ idsE L
        · have HM := Lib.hid hm
          clear hm
          go_wp2_with fail
          refine (updateA_some (L := L) id key HM.out hl9I oA).mono ?_
          rintro e5 w5 ⟨rfl, o5, k5⟩
          go_wp2_with fail
          refine (updateR_some (L := L) id key hl9 HND.out HM.out o5.swap).mono ?_
          rintro e6 w6 ⟨rfl, o6, k6⟩
          go_wp2
          go_ret
          exact ⟨_, by rw [setK_len]; exact hL, rfl, o6.swap, kA.trans (k5.trans k6)⟩
        · have HM := Lib.hid hm
          clear hm
          go_wp2_with fail
          refine (updateA_none (L := L) id key HM.out oA).mono ?_
          rintro e5 w5 ⟨rfl, o5, k5⟩
          go_wp2_with fail
          refine (updateR_none (L := L) id key hl9 HM.out o5.swap).mono ?_
          rintro e6 w6 ⟨rfl, o6, k6⟩
          go_wp2
          go_ret
          exact ⟨_, hL, rfl, o6.swap, kA.trans (k5.trans k6)⟩
      · by_cases hm : id ∈ idsE L
        · obtain ⟨x, hx, rfl⟩ := List.mem_map.1 hm
          have HX := Lib.hid hx
          clear hm hx
          go_wp2_with fail
          refine (removeA_some (L := L) x HX.out hl9I oA).mono ?_
          rintro e5 w5 ⟨rfl, o5, k5⟩
          go_wp2_with fail
          refine (removeR_some (L := L) x hl9 HND.out HX.out o5.swap).mono ?_
          rintro e6 w6 ⟨rfl, o6, k6⟩
          go_wp2
          go_ret
          exact ⟨_, by have := delK_len x.1 L; omega, rfl, o6.swap, kA.trans (k5.trans k6)⟩
        · have HM := Lib.hid hm
          clear hm
          go_wp2_with fail
          refine (removeA_none (L := L) id HM.out oA).mono ?_
          rintro e5 w5 ⟨rfl, o5, k5⟩
          go_wp2_with fail
          refine (removeR_none (L := L) id hl9 HM.out o5.swap).mono ?_
          rintro e6 w6 ⟨rfl, o6, k6⟩
          go_wp2
          go_ret
          exact ⟨_, hL, rfl, o6.swap, kA.trans (k5.trans k6)⟩
      · by_cases hm : L = []
        · subst hm
          go_wp2_with fail
          refine (peekA_none oA).mono ?_
          rintro e5 w5 ⟨rfl, o5, k5⟩
          have o6 := (o5.alloc (.cells #[.int .i64 0, .int .i64 0] 41)).up 2
          go_wp2_with fail
          refine (peekR_none o6).mono ?_
          rintro e7 w7 ⟨rfl, o7, k7⟩
          have o8 : Own w7 (cel w5.heap.size 41 [.int .i64 0, .int .i64 0] :: _) := o7.up 1
          have d0 := o8.cell 0
          have d1 := o8.cell 1
          have dl := o8.celLt
          go_wp2
          go_ret
          exact ⟨_, hL, rfl, (o7.more _).re [1, 2, 0, 3, 4] 1, kA.trans (k5.trans (k7.al.trans ⟨rfl, rfl, rfl⟩))⟩
        · obtain ⟨x, hx⟩ := least_ex hm
          have HX := Lib.hid hx
          clear hm hx
          go_wp2_with fail
          refine (peekA_some (L := L) x HX.out hl9I oA).mono ?_
          rintro e5 w5 ⟨rfl, o5, k5⟩
          have o6 := (o5.alloc (.cells #[.int .i64 x.1, .int .i64 x.2] 41)).up 2
          go_wp2_with fail
          refine (peekR_some (L := L) x HX.out hl9I o6).mono ?_
          rintro e7 w7 ⟨rfl, o7, k7⟩
          have o8 : Own w7 (cel w5.heap.size 41 [.int .i64 x.1, .int .i64 x.2] :: _) := o7.up 1
          have d0 := o8.cell 0
          have d1 := o8.cell 1
          have dl := o8.celLt
          go_wp2
          go_ret
          exact ⟨_, hL, rfl, (o7.more _).re [1, 2, 0, 3, 4] 1, kA.trans (k5.trans (k7.al.trans ⟨rfl, rfl, rfl⟩))⟩
      · by_cases hm : id ∈ idsE L
        · obtain ⟨x, hx, rfl⟩ := List.mem_map.1 hm
          have HX := Lib.hid hx
          clear hm hx
          go_wp2_with fail
          refine (keyA_some (L := L) x HX.out oA).mono ?_
          rintro e5 w5 ⟨rfl, o5, k5⟩
          go_wp2_with fail
          refine (keyR_some (L := L) x hl9 HND.out HX.out o5.swap).mono ?_
          rintro e6 w6 ⟨rfl, o6, k6⟩
          go_wp2
          go_ret
          exact ⟨_, hL, rfl, o6.swap, kA.trans (k5.trans k6)⟩
        · have HM := Lib.hid hm
          clear hm
          go_wp2_with fail
          refine (keyA_none (L := L) id HM.out oA).mono ?_
          rintro e5 w5 ⟨rfl, o5, k5⟩
          go_wp2_with fail
          refine (keyR_none (L := L) id hl9 HM.out o5.swap).mono ?_
          rintro e6 w6 ⟨rfl, o6, k6⟩
          go_wp2
          go_ret
          exact ⟨_, hL, rfl, o6.swap, kA.trans (k5.trans k6)⟩
      · by_cases hm : L = []
        · subst hm
          go_wp2_with fail
          refine (popA_none oA).mono ?_
          rintro e5 w5 ⟨rfl, o5, k5⟩
          have o6 := (o5.alloc (.cells #[.int .i64 0, .int .i64 0] 41)).up 2
          go_wp2_with fail
          refine (popR_none o6).mono ?_
          rintro e7 w7 ⟨rfl, o7, k7⟩
          have o8 : Own w7 (cel w5.heap.size 41 [.int .i64 0, .int .i64 0] :: _) := o7.up 1
          have d0 := o8.cell 0
          have d1 := o8.cell 1
          have dl := o8.celLt
          go_wp2
          go_ret
          exact ⟨_, hL, rfl, (o7.more _).re [1, 2, 0, 3, 4] 1, kA.trans (k5.trans (k7.al.trans ⟨rfl, rfl, rfl⟩))⟩
        · obtain ⟨x, hx⟩ := least_ex hm
          have HX := Lib.hid hx
          clear hm hx
          go_wp2_with fail
          refine (popA_some (L := L) x HX.out hl9I oA).mono ?_
          rintro e5 w5 ⟨rfl, o5, k5⟩
          have o6 := (o5.alloc (.cells #[.int .i64 x.1, .int .i64 x.2] 41)).up 2
          go_wp2_with fail
          refine (popR_some (L := L) x HX.out HND.out hl9 o6).mono ?_
          rintro e7 w7 ⟨rfl, o7, k7⟩
          have o8 : Own w7 (cel w5.heap.size 41 [.int .i64 x.1, .int .i64 x.2] :: _) := o7.up 1
          have d0 := o8.cell 0
          have d1 := o8.cell 1
          have dl := o8.celLt
          go_wp2
          go_ret
          exact ⟨_, by have := delK_len x.1 L; omega, rfl, (o7.more _).re [1, 2, 0, 3, 4] 1, kA.trans (k5.trans (k7.al.trans ⟨rfl, rfl, rfl⟩))⟩
end
end Go.Proofs.Ytaphomilgoobiaa
