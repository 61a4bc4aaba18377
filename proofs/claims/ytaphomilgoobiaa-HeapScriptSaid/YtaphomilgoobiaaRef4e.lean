/- The reference of chapter 4: Pop, Entries. -/
import Derived.Test.YtaphomilgoobiaaRef4d
namespace Go.Proofs.Ytaphomilgoobiaa
open Go.RowKit
open SP
section
variable {W w w' : World} {b : Nat} {cap : Int} {L : List (Int × Int)} {R : List SP}
set_option maxHeartbeats 1600000 in
set_option maxRecDepth 100000 in
theorem popR_none (o : Own w (RefH b cap [] :: R)) :
    Calls Try.prog 35 #[.pointer (some ⟨b, 0, none⟩)] w (Ret (.tuple #[.agg #[.int .i64 0, .int .i64 0], .int .i64 5]) (RefH b cap [] :: R) w) := by
  have oA := (o.alloc (.cells #[.int .i64 0, .int .i64 0] 41)).up 1
  go_enter Try.func35, Try.ntmps35
  go_wp2_with fail
  refine (peekR_none oA).mono ?_
  rintro e1 w1 ⟨rfl, o2, k2⟩
  have o3 : Own w1 (cel w.heap.size 41 [.int .i64 0, .int .i64 0] :: _) := o2.up 1
  have d0 := o3.cell 0
  have d1 := o3.cell 1
  have df := o3.frozen
  have dl := o3.celLt
  have oE := ((o3.setCell 0 (.int .i64 0)).setCell 1 (.int .i64 0)).more (.cells #[.int .i64 0, .int .i64 0] 41)
  have x0 := oE.cell 0
  have x1 := oE.cell 1
  go_wp2
  refine bodyPost_ret (v := .tuple #[.agg #[.int .i64 0, .int .i64 0], .int .i64 5]) (by simp [results, Try.results35, go_sem, x0, x1]) rfl ⟨rfl, oE.drop, ⟨k2.os, k2.tape, k2.output⟩⟩
set_option maxHeartbeats 1600000 in
set_option maxRecDepth 100000 in
theorem popR_some (x : Int × Int) (hx : LeastE x L) (hn : (idsE L).Nodup) (h2 : L.length ≤ 900000) (o : Own w (RefH b cap L :: R)) :
    Calls Try.prog 35 #[.pointer (some ⟨b, 0, none⟩)] w (Ret (.tuple #[.agg #[.int .i64 x.1, .int .i64 x.2], .int .i64 0]) (RefH b cap (delK x.1 L) :: R) w) := by
  have oA := (o.alloc (.cells #[.int .i64 0, .int .i64 0] 41)).up 1
  go_enter Try.func35, Try.ntmps35
  go_wp2_with fail
  refine (peekR_some x hx (by omega) oA).mono ?_
  rintro e1 w1 ⟨rfl, o2, k2⟩
  have o3 := (o2.alloc (.cells #[.int .i64 x.1, .int .i64 x.2] 41)).up 1
  go_wp2_with fail
  refine (removeR_some x h2 hn hx.1 o3).mono ?_
  rintro e4 w4 ⟨rfl, o4, k4⟩
  have o5 : Own w4 (cel w.heap.size 41 [.int .i64 0, .int .i64 0] :: _) := o4.up 2
  have d0 := o5.cell 0
  have d1 := o5.cell 1
  have df := o5.frozen
  have dl := o5.celLt
  have o6 : Own w4 (cel w1.heap.size 41 [.int .i64 x.1, .int .i64 x.2] :: _) := o4.up 1
  have f0 := o6.cell 0
  have f1 := o6.cell 1
  go_wp2
  refine bodyPost_ret (v := .tuple #[.agg #[.int .i64 x.1, .int .i64 x.2], .int .i64 0]) (by simp [results, Try.results35, go_sem, d0, d1]) rfl ⟨rfl, ?_, k2.al.trans (k4.al.trans ⟨rfl, rfl, rfl⟩)⟩
  exact ((o5.setCell 0 (.int .i64 x.1)).setCell 1 (.int .i64 x.2)).re [0, 2, 1] 2

theorem insE {i k : Nat} {x : Int × Int} {Out : List (Int × Int)} (ho : Out = sortE (L.take i)) (hx : L[i]? = some x) (hk : ∀ j z, j < k → Out[j]? = some z → ¬ leE x z) (hk2 : ∀ z, Out[k]? = some z → leE x z) :
    Out.take k ++ [x] ++ Out.drop k = sortE (L.take (i + 1)) := by
  have hs : Out.Pairwise leE := ho ▸ sortE_pw _
  have hp : (Out.take k ++ [x] ++ Out.drop k).Perm (L.take (i + 1)) := by
    have h1 : (Out.take k ++ [x] ++ Out.drop k).Perm (x :: Out) := by
      rw [List.append_assoc]
      show (Out.take k ++ x :: Out.drop k).Perm (x :: Out)
      exact List.perm_middle.trans (by rw [List.take_append_drop])
    have h2 : (x :: Out).Perm (x :: L.take i) := List.Perm.cons x (ho ▸ sortE_perm _)
    have h3 : L.take (i + 1) = L.take i ++ [x] := by rw [List.take_add_one, hx]; rfl
    rw [h3]
    exact h1.trans (h2.trans (List.perm_append_comm (l₁ := [x]) (l₂ := L.take i)))
  have hs2 : (Out.take k ++ [x] ++ Out.drop k).Pairwise leE := by
    have hsp := hs
    rw [← List.take_append_drop k Out, List.pairwise_append] at hsp
    obtain ⟨p1, p2, p3⟩ := hsp
    have hxd : ∀ z ∈ Out.drop k, leE x z := by
      intro z hz
      obtain ⟨j, hj⟩ := List.getElem?_of_mem hz
      rw [List.getElem?_drop] at hj
      obtain ⟨hjl, hje⟩ := List.getElem?_eq_some_iff.1 hj
      have hkl : k < Out.length := by omega
      have h0 := hk2 _ (List.getElem?_eq_getElem hkl)
      by_cases hj0 : j = 0
      · subst hj0
        rw [← hje]; exact h0
      · have := List.pairwise_iff_getElem.1 hs k (k + j) hkl hjl (by omega)
        rw [hje] at this
        exact h0.trans this
    have hxt : ∀ z ∈ Out.take k, leE z x := by
      intro z hz
      obtain ⟨j, hj⟩ := List.getElem?_of_mem hz
      have hjk : j < k := by have := (List.getElem?_eq_some_iff.1 hj).1; rw [List.length_take] at this; omega
      rw [List.getElem?_take, if_pos hjk] at hj
      exact leE.of_not (hk j z hjk hj)
    rw [List.append_assoc, List.pairwise_append]
    refine ⟨p1, ?_, ?_⟩
    · exact List.pairwise_cons.2 ⟨hxd, p2⟩
    · intro a ha c hc
      rcases List.mem_cons.1 hc with rfl | hc
      · exact hxt a ha
      · exact p3 a ha c hc
  rw [← sortE_congr hp, sortE_id hs2]
end
end Go.Proofs.Ytaphomilgoobiaa
