/- Lists of ints in memory: Equal and Has of the statements' helpers. -/
import Derived.Test.YtbldanhjbnpdiaaGreatDoorRuA
import Derived.Laws.Rows
namespace Go.Proofs.YtbldanhjbnpdiaaGreatDoor
open Go.RowKit
open SP
def natL (l : List Nat) : List Value := l.map fun (i : Nat) => Value.int .i64 (i : Int)
theorem natL_len (l : List Nat) : (natL l).length = l.length := List.length_map _
theorem natL_get {l : List Nat} {i x : Nat} (h : l[i]? = some x) : (natL l)[i]? = some (.int .i64 (x : Int)) := by
  unfold natL; rw [List.getElem?_map, h]; rfl
section
variable {W w w' : World} {R : List SP}
/-- One int of a list. -/
theorem natL_cell {T : TypeId} {a : Option Addr} {n c : Nat} {l : List Nat} (hn : n = l.length) (o : Own w (slc T 1 a n c (natL l) :: R)) {i x : Nat} (hx : l[i]? = some x) :
    ∃ g, a = some ⟨g, 0, none⟩ ∧ w.cell? ⟨g, i, none⟩ = some (.int .i64 (x : Int)) ∧ g < w.heap.size := by
  have := (List.getElem?_eq_some_iff.1 hx).1
  obtain ⟨g, h, hc, _, hlt⟩ := o.slc_cell (by omega)
  exact ⟨g, h, hc i _ (natL_get hx), hlt⟩
def EqRelI (n : Nat) (w : World) (v : Value) (wr : World) : Prop := ∃ (i q : Nat), v = .int .i64 (i : Int) ∧ i ≤ n ∧ wr = w.drewN q
set_option maxHeartbeats 1600000 in
set_option maxRecDepth 100000 in
theorem equalI_spec {a1 a2 : Option Addr} {n c1 c2 : Nat} {F : List Nat} (hn : n = F.length) (hn2 : n ≤ 1000) (o : Own w (slc 3 1 a1 n c1 (natL F) :: slc 3 1 a2 n c2 (natL F) :: R)) :
    Calls Tryz.prog 18 #[.slice a1 n c1, .slice a2 n c2] w (Ret (.bool true) (slc 3 1 a1 n c1 (natL F) :: slc 3 1 a2 n c2 (natL F) :: R) w) := by
  have HN := Lib.hid hn
  clear hn
  go_enter Tryz.func18, Tryz.ntmps18
  go_wp2
  go_loopw [5] (fun v wr => EqRelI n w v wr) (fun v _ => n - viN v)
  case atStart => exact ⟨0, 0, rfl, by omega, rfl⟩
  case round =>
    obtain ⟨i, q, rfl, hi, rfl⟩ := hrel
    by_cases hlt : i < n
    · obtain ⟨f, hf⟩ : ∃ f, F[i]? = some f := ⟨_, List.getElem?_eq_getElem (by rw [← HN.out]; exact hlt)⟩
      obtain ⟨g1, hg1, d0, _⟩ := natL_cell HN.out o hf
      obtain ⟨g2, hg2, f0, _⟩ := natL_cell HN.out (o.up 1) hf
      subst hg1
      subst hg2
      clear hf
      go_wp2
      go_quiet (fail)
      go_wp2
      go_roundw
      case rel => exact ⟨i + 1, _, by go_num, by omega, rfl⟩
      case measure => simp [viN]; omega
    · go_wp2
      go_ret
      exact ⟨rfl, o.drewN q, ⟨rfl, rfl, rfl⟩⟩
theorem has_snoc {L : List Nat} {i y x : Nat} (hy : L[i]? = some y) (h : x ∉ L.take i) (hne : y ≠ x) : x ∉ L.take (i + 1) := by
  rw [List.take_add_one, hy]
  simp only [Option.toList_some, List.mem_append, List.mem_singleton, not_or]
  exact ⟨h, fun e => hne e.symm⟩
def HasRelI (L : List Nat) (x n : Nat) (w : World) (v : Value) (wr : World) : Prop := ∃ i : Nat, v = .int .i64 (i : Int) ∧ i ≤ n ∧ x ∉ L.take i ∧ wr = w
set_option maxHeartbeats 1600000 in
set_option maxRecDepth 100000 in
theorem hasI_spec {a : Option Addr} {n c : Nat} {L : List Nat} (x : Nat) (hn : n = L.length) (hn2 : n ≤ 1000) (o : Own w (slc 3 1 a n c (natL L) :: R)) :
    Calls Tryz.prog 20 #[.slice a n c, .int .i64 (x : Int)] w (Ret (.bool (decide (x ∈ L))) (slc 3 1 a n c (natL L) :: R) w) := by
  have HN := Lib.hid hn
  clear hn
  go_enter Tryz.func20, Tryz.ntmps20
  go_wp2
  go_loopw [5] (fun v wr => HasRelI L x n w v wr) (fun v _ => n - viN v)
  case atStart => exact ⟨0, rfl, by omega, by simp, rfl⟩
  case round =>
    obtain ⟨i, rfl, hi, hno, rfl⟩ := hrel
    by_cases hlt : i < n
    · obtain ⟨y, hy⟩ : ∃ f, L[i]? = some f := ⟨_, List.getElem?_eq_getElem (by rw [← HN.out]; exact hlt)⟩
      obtain ⟨g1, hg1, d0, _⟩ := natL_cell HN.out o hy
      subst hg1
      by_cases he : y = x
      · subst he
        have hm := Lib.hid (List.mem_of_getElem? hy)
        clear hy hno
        go_wp2
        go_ret
        exact ⟨by rw [decide_eq_true hm.out]; rfl, o, Calm.refl _⟩
      · have hs := Lib.hid (has_snoc hy hno he)
        have dn : (((y : Nat) : Int) == ((x : Nat) : Int)) = false := beq_eq_false_iff_ne.2 fun e => he (by omega)
        clear hy hno
        go_wp2
        go_roundw
        case rel => exact ⟨i + 1, by go_num, by omega, hs.out, rfl⟩
        case measure => simp [viN]; omega
    · have hm : x ∉ L := by rwa [List.take_of_length_le (by rw [← HN.out]; omega)] at hno
      have HM := Lib.hid hm
      clear hm hno
      go_wp2
      go_ret
      exact ⟨by rw [decide_eq_false HM.out]; rfl, o, Calm.refl _⟩
end
end Go.Proofs.YtbldanhjbnpdiaaGreatDoor
