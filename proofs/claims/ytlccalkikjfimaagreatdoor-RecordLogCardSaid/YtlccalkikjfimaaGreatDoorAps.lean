/- append(b, s...) of a string to a slice of bytes that is owned. -/
import Derived.Test.YtlccalkikjfimaaGreatDoorApp
import Derived.Lib.AppendStr
namespace Go.Proofs.YtlccalkikjfimaaGreatDoor
open Go.RowKit
open SP
section
variable {w : World} {l : List SP} {P : Program} {t u e : TypeId}
theorem run_append_str (ty : TypeId) (E : ElemT P t e 1 1) (hu : P.underlying u = some .string) {a : Option Addr} {n cap : Nat} {xs : List Value} (o : Own w (SP.slc e 1 a n cap xs :: l)) (s : ByteArray) (h0 : 0 < s.size)
    (h63 : n + s.size ≤ maxLen) (hbytes : n + s.size ≤ 140737488355328) :
    ∃ a' cap' w', (Builtin.append_ #[t, u] ty #[.slice a n cap, .string s]).run P w = .ok (.slice a' (n + s.size) cap') w' ∧ Own w' (SP.slc e 1 a' (n + s.size) cap' (xs ++ Lib.strCells s) :: l) ∧ Calm w w' := by
  obtain ⟨ht, ⟨i, z, hi, hz, hsz, hby, hzs⟩, _⟩ := E
  have hsl := Lib.strCells_length s
  have hzc : z.cells.size = 1 := hzs.trans (by first | rfl | exact hsz)
  have grown : ∀ (old : Nat) (o' : Own w l), old < n + s.size → xs.length = n →
      Own (w.drew.alloc (.cells (xs.toArray ++ (Lib.strCells s).toArray ++ Builtin.zeroCells z.cells (grownCap w (n + s.size) old e - (n + s.size))) e))
        (SP.slc e 1 (some ⟨w.heap.size, 0, none⟩) (n + s.size) (grownCap w (n + s.size) old e) (xs ++ Lib.strCells s) :: l) := by
    intro old o' ho hx
    refine Own.slc.2 (.inr ⟨w.heap.size, (Builtin.zeroCells z.cells (grownCap w (n + s.size) old e - (n + s.size))).toList, rfl, grownCap_ge _ _ _ _, grownCap_le_maxLen _ _ _ _ h63, ?_, ?_, ?_⟩)
    · rw [List.length_append, hx, hsl, Nat.mul_one]
    · simp [size_zeroCells, hzc]
    · have := Own.alloc (w := w.drew) o'.drew (.cells (xs.toArray ++ (Lib.strCells s).toArray ++ Builtin.zeroCells z.cells (grownCap w (n + s.size) old e - (n + s.size))) e)
      unfold SP.cel
      have e1 : (xs ++ Lib.strCells s ++ (Builtin.zeroCells z.cells (grownCap w (n + s.size) old e - (n + s.size))).toList).toArray = xs.toArray ++ (Lib.strCells s).toArray ++ Builtin.zeroCells z.cells (grownCap w (n + s.size) old e - (n + s.size)) := by simp
      rw [e1]
      exact this
  rcases Own.slc.1 o with ⟨rfl, rfl, rfl, rfl, o1⟩ | ⟨g, sp, rfl, hnc, hcm, hxl, hspl, o1⟩
  · have hr := run_append_nil_string (P := P) w t u ty e i z ht hu hi hz s h0 (by omega) (by rw [hby]; omega)
    have hgr := grown 0 o1 (by omega) rfl
    simp only [Nat.zero_add, List.nil_append, Array.empty_append] at hgr ⊢
    have e1 : (s.data.map fun b => Value.int .u8 b.toNat) = (Lib.strCells s).toArray := by
      apply Array.ext'
      simp [Lib.strCells]
    rw [e1] at hr
    exact ⟨_, _, _, hr, hgr, ⟨rfl, rfl, rfl⟩⟩
  · have hg : w.heap[g]? = some (.cells (xs ++ sp).toArray e (0, 0)) := Own.blk o1
    rw [Nat.mul_one] at hxl hspl
    by_cases hroom : n + s.size ≤ cap
    · have hr := Lib.run_append_room_string (P := P) w t u ty e i ht hu hi hsz g n cap (xs ++ sp).toArray hg s hroom (by simp only [List.size_toArray, List.length_append, hxl, hspl]; omega)
      refine ⟨_, _, _, hr, ?_, ⟨rfl, rfl, rfl⟩⟩
      have e1 : (xs ++ sp).toArray.toList.take n ++ Lib.strCells s ++ (xs ++ sp).toArray.toList.drop (n + s.size) = (xs ++ Lib.strCells s) ++ sp.drop s.size := by
        rw [← hxl]
        simp only [List.take_left]
        rw [← List.drop_drop, List.drop_left]
      rw [e1]
      refine Own.slc.2 (.inr ⟨g, sp.drop s.size, rfl, hroom, hcm, ?_, ?_, o1.setRow _⟩)
      · rw [List.length_append, hxl, hsl, Nat.mul_one]
      · rw [List.length_drop, hspl, Nat.mul_one]; omega
    · have holds : ∀ j u, xs[j]? = some u → w.cell? ((⟨g, 0, none⟩ : Addr).add j) = some u := by
        intro j u hu
        have hadd : (⟨g, 0, none⟩ : Addr).add j = ⟨g, j, none⟩ := by unfold Addr.add; split <;> simp_all
        rw [hadd]
        refine Own.cell o1 j ?_
        rw [List.getElem?_append_left (List.getElem?_eq_some_iff.1 hu).1]; exact hu
      have hr := Lib.run_append_grow_string (P := P) w t u ty e i z ht hu hi hz ⟨g, 0, none⟩ n cap xs (by rw [hsz]; omega) holds s (by omega) (by unfold maxLen at h63; omega) (by rw [hby]; exact growslice_fits (by omega) (by omega))
      exact ⟨_, _, _, hr, grown cap o1.drop (by omega) hxl, ⟨rfl, rfl, rfl⟩⟩
theorem wpList_append_str {ops : Array Oper} {rest : List Oper} {op : Oper} {A : Act} {Q : Exit → Act → World → Prop} (hgd : op.guard = none) (s x : Operand)
    (hop : op.op = .call { callee := .builtin .append, args := #[s, x], argTypes := #[t, u] })
    (E : ElemT P t e 1 1) (hu : P.underlying u = some .string) {a : Option Addr} {n cap : Nat} {xs : List Value} (hs : A.eval s = .slice a n cap) (o : Own w (SP.slc e 1 a n cap xs :: l))
    (b : ByteArray) (hx : A.eval x = .string b) (h0 : 0 < b.size) (h63 : n + b.size ≤ maxLen) (hbytes : n + b.size ≤ 140737488355328)
    (h : ∀ a' cap' w', Own w' (SP.slc e 1 a' (n + b.size) cap' (xs ++ Lib.strCells b) :: l) → Calm w w' → wpList P ops Q rest (A.put op.dst (.slice a' (n + b.size) cap')) w') : wpList P ops Q (op :: rest) A w := by
  refine wpList_plain hgd fun K hK => ?_
  obtain ⟨a', cap', w', hr, h2, h3⟩ := run_append_str op.type E hu o b h0 h63 hbytes
  unfold Oper.wp execOp
  simp only [hop, resolve, invoke, builtin, Sem.run_bind, Sem.run_pure, Result.andThen_ok, List.map_toArray, List.map_cons, List.map_nil, hs, hx, hr]
  exact hK _ _ (h a' cap' w' h2 h3)
end
end Go.Proofs.YtlccalkikjfimaaGreatDoor
