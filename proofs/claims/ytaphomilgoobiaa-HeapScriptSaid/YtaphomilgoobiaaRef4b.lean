/- The reference of chapter 4: Update, Key, Remove, less, Peek, Pop. -/
import Derived.Test.YtaphomilgoobiaaRef4
import Derived.Deep.DeepCutAuto
import Derived.Deep.CutBlock
namespace Go.Proofs.Ytaphomilgoobiaa
open Go.RowKit
open SP
section
variable {W w w' : World} {b : Nat} {cap : Int} {L : List (Int × Int)} {R : List SP}
set_option maxHeartbeats 1600000 in
set_option maxRecDepth 100000 in
theorem updateR_none (id key : Int) (hL : L.length ≤ 900000) (hn : id ∉ idsE L) (o : Own w (RefH b cap L :: R)) :
    Calls Try.prog 30 #[.pointer (some ⟨b, 0, none⟩), .int .i64 id, .int .i64 key] w (Ret (.int .i64 6) (RefH b cap L :: R) w) := by
  have hat := at4_spec id (by omega) o
  rw [atE_none 0 L hn] at hat
  clear hn
  go_enter Try.func30, Try.ntmps30
  go_wp2_with fail
  refine hat.mono ?_
  rintro e5 w5 ⟨rfl, rfl⟩
  go_wp2
  go_ret
  exact ⟨rfl, o, Calm.refl _⟩
theorem entSet1 (L : List (Int × Int)) (i : Nat) (y : Int × Int) (key : Int) (h : L[i]? = some y) : flat ent (L.set i (y.1, key)) = (flat ent L).set (i * 2 + 1) (.int .i64 key) := flat_ent_set1 L i y key h
set_option maxHeartbeats 1600000 in
set_option maxRecDepth 100000 in
theorem updateR_some (id key : Int) (hL : L.length ≤ 900000) (hn : (idsE L).Nodup) (hm : id ∈ idsE L) (o : Own w (RefH b cap L :: R)) :
    Calls Try.prog 30 #[.pointer (some ⟨b, 0, none⟩), .int .i64 id, .int .i64 key] w (Ret (.int .i64 0) (RefH b cap (setK id key L) :: R) w) := by
  have hat := at4_spec id (by omega) o
  obtain ⟨i, x, hx, rfl, hai⟩ := atE_some 0 L hm
  rw [hai, Nat.zero_add] at hat
  obtain ⟨a, c, o1⟩ := RefH.iff.1 o
  have hi := (List.getElem?_eq_some_iff.1 hx).1
  obtain ⟨g, hg, d0, d1, hfr, hgl⟩ := ent_cells (o1.up 1) hx (by omega)
  subst hg
  have c1 := o1.cell 1
  have o2 := ((o1.up 1).slc_set (i * 2 + 1) (.int .i64 key) (by rw [flat_length ent_len]; omega)).up 1
  rw [← flat_ent_set1 L i x key hx] at o2
  have oF : Own (w.setCell ⟨g, i * 2 + 1, none⟩ (.int .i64 key)) (RefH b cap (setK x.1 key L) :: R) := by
    rw [← setK_at hn hx key]
    exact RefH.iff.2 ⟨some ⟨g, 0, none⟩, c, by rw [List.length_set]; exact o2⟩
  clear hx hai hm hn o2
  go_enter Try.func30, Try.ntmps30
  go_wp2_with fail
  refine hat.mono ?_
  rintro e5 w5 ⟨rfl, rfl⟩
  go_wp2
  go_ret
  exact ⟨rfl, oF, ⟨rfl, rfl, rfl⟩⟩
set_option maxHeartbeats 1600000 in
set_option maxRecDepth 100000 in
theorem keyR_none (id : Int) (hL : L.length ≤ 900000) (hn : id ∉ idsE L) (o : Own w (RefH b cap L :: R)) :
    Calls Try.prog 34 #[.pointer (some ⟨b, 0, none⟩), .int .i64 id] w (Ret (.tuple #[.int .i64 0, .bool false]) (RefH b cap L :: R) w) := by
  have hat := at4_spec id (by omega) o
  rw [atE_none 0 L hn] at hat
  clear hn
  go_enter Try.func34, Try.ntmps34
  go_wp2_with fail
  refine hat.mono ?_
  rintro e5 w5 ⟨rfl, rfl⟩
  go_wp2
  go_ret2
  exact ⟨rfl, o, Calm.refl _⟩
set_option maxHeartbeats 1600000 in
set_option maxRecDepth 100000 in
theorem keyR_some (x : Int × Int) (hL : L.length ≤ 900000) (hn : (idsE L).Nodup) (hx : x ∈ L) (o : Own w (RefH b cap L :: R)) :
    Calls Try.prog 34 #[.pointer (some ⟨b, 0, none⟩), .int .i64 x.1] w (Ret (.tuple #[.int .i64 x.2, .bool true]) (RefH b cap L :: R) w) := by
  have hat := at4_spec x.1 (by omega) o
  obtain ⟨i, y, hy, he, hai⟩ := atE_some 0 L (List.mem_map.2 ⟨x, hx, rfl⟩ : x.1 ∈ idsE L)
  obtain rfl : y = x := nodup_inj hn (List.mem_of_getElem? hy) hx he
  rw [hai, Nat.zero_add] at hat
  obtain ⟨a, c, o1⟩ := RefH.iff.1 o
  have hi := (List.getElem?_eq_some_iff.1 hy).1
  obtain ⟨g, hg, d0, d1, hfr, hgl⟩ := ent_cells (o1.up 1) hy (by omega)
  subst hg
  have c1 := o1.cell 1
  clear hy hai hx hn he
  go_enter Try.func34, Try.ntmps34
  go_wp2_with fail
  refine hat.mono ?_
  rintro e5 w5 ⟨rfl, rfl⟩
  go_wp2
  go_ret2
  exact ⟨rfl, o, Calm.refl _⟩
def lessB (x y : Int × Int) : Bool := decide (x.2 < y.2 ∨ x.2 = y.2 ∧ x.1 < y.1)
set_option maxHeartbeats 1600000 in
set_option maxRecDepth 100000 in
theorem less_spec (x y : Int × Int) (o : Own w R) :
    Calls Try.prog 36 #[.agg #[.int .i64 x.1, .int .i64 x.2], .agg #[.int .i64 y.1, .int .i64 y.2]] w (Ret (.bool (lessB x y)) R w) := by
  obtain ⟨x1, x2⟩ := x
  obtain ⟨y1, y2⟩ := y
  by_cases h1 : x2 < y2
  · have e : lessB (x1, x2) (y1, y2) = true := by unfold lessB; simp [h1]
    rw [e]; clear e
    go_enter Try.func36, Try.ntmps36
    go_wp2
    go_ret
    exact ⟨rfl, (o.more _).more _, ⟨rfl, rfl, rfl⟩⟩
  · by_cases h2 : x2 = y2
    · subst h2
      have e : lessB (x1, x2) (y1, x2) = decide (x1 < y1) := by unfold lessB; simp
      rw [e]; clear e
      go_enter Try.func36, Try.ntmps36
      go_wp2
      go_ret
      exact ⟨rfl, (o.more _).more _, ⟨rfl, rfl, rfl⟩⟩
    · have e : lessB (x1, x2) (y1, y2) = false := by unfold lessB; simp [h1, h2]
      have hb : (x2 == y2) = false := by simpa using h2
      rw [e]; clear e h2
      go_enter Try.func36, Try.ntmps36
      go_wp2
      go_ret
      exact ⟨rfl, (o.more _).more _, ⟨rfl, rfl, rfl⟩⟩
end
end Go.Proofs.Ytaphomilgoobiaa
