/- append(s, x...) where x may be empty, as an operation of a list and as a step of a region that draws its order. -/
import Derived.Test.YtlccalkikjfimaaGreatDoorRe
import Derived.Deep.RegionHeld3
namespace Go.Proofs.YtlccalkikjfimaaGreatDoor
open Go.RowKit
open SP

/-- What is appended: x has m elements whose cells are news. -/
def IsSrc (w : World) (x : Value) (size m : Nat) (news : List Value) : Prop :=
  ∃ a c, x = .slice a m c ∧ news.length = m * size ∧ (∀ u ∈ news, u.oneCell' = true) ∧ (m = 0 ∨ ∃ ad, a = some ad ∧ ∀ (j : Nat) u, news[j]? = some u → w.cell? (ad.add j) = some u)

section
variable {w : World} {l : List SP} {P : Program} {t e : TypeId} {size bytes : Nat}

theorem run_append_src (ty : TypeId) (E : ElemT P t e size bytes) {a : Option Addr} {n cap : Nat} {xs : List Value} (o : Own w (SP.slc e size a n cap xs :: l)) {x : Value} {m : Nat} {news : List Value} (hx : IsSrc w x size m news)
    (h63 : n + m ≤ maxLen) (hbytes : (n + m) * bytes ≤ 140737488355328) :
    ∃ a' cap' w', (Builtin.append_ #[t, t] ty #[.slice a n cap, x]).run P w = .ok (.slice a' (n + m) cap') w' ∧ Own w' (SP.slc e size a' (n + m) cap' (xs ++ news) :: l) ∧ Calm w w' := by
  obtain ⟨b, c, rfl, hl, h1, hb⟩ := hx
  rcases hb with rfl | ⟨ad, rfl, hc⟩
  · have hn : news = [] := List.eq_nil_of_length_eq_zero (by simpa using hl)
    subst hn
    obtain ⟨ht, ⟨i, z, hi, hz, rfl, rfl, hzs⟩, hsz⟩ := E
    have hnc := o.slc_len.2.1
    refine ⟨a, cap, w, ?_, by simpa using o, Calm.refl w⟩
    cases b <;> cases a <;> first
      | (have h0 : n = 0 ∧ cap = 0 := by
          rcases Own.slc.1 o with ⟨_, h, h', _⟩ | ⟨_, _, h, _⟩
          · exact ⟨h, h'⟩
          · cases h
         obtain ⟨rfl, rfl⟩ := h0
         simp [Builtin.append_, run_underlying ht, sizeOf, typeInfo, hi, Builtin.lenOf, Builtin.firstCells, loadCells, loadCellsFrom])
      | simp [Builtin.append_, run_underlying ht, sizeOf, typeInfo, hi, Builtin.lenOf, Builtin.firstCells, loadCells, loadCellsFrom, hnc, storeCells]
  · exact run_append_slc ty E o ad m c news hl hc h1 h63 hbytes

theorem wpList_append_src {ops : Array Oper} {rest : List Oper} {op : Oper} {A : Act} {Q : Exit → Act → World → Prop} (hgd : op.guard = none) (s x : Operand)
    (hop : op.op = .call { callee := .builtin .append, args := #[s, x], argTypes := #[t, t] })
    (E : ElemT P t e size bytes) {a : Option Addr} {n cap : Nat} {xs : List Value} (hs : A.eval s = .slice a n cap) (o : Own w (SP.slc e size a n cap xs :: l))
    {v : Value} {m : Nat} {news : List Value} (hx : A.eval x = v) (hsrc : IsSrc w v size m news)
    (h63 : n + m ≤ maxLen) (hbytes : (n + m) * bytes ≤ 140737488355328)
    (h : ∀ a' cap' w', Own w' (SP.slc e size a' (n + m) cap' (xs ++ news) :: l) → Calm w w' → wpList P ops Q rest (A.put op.dst (.slice a' (n + m) cap')) w') : wpList P ops Q (op :: rest) A w := by
  refine wpList_plain hgd fun K hK => ?_
  obtain ⟨a', cap', w', hr, h2, h3⟩ := run_append_src op.type E o hsrc h63 hbytes
  unfold Oper.wp execOp
  simp only [hop, resolve, invoke, builtin, Sem.run_bind, Sem.run_pure, Result.andThen_ok, List.map_toArray, List.map_cons, List.map_nil, hs, hx, hr]
  exact hK _ _ (h a' cap' w' h2 h3)

theorem step_append_src {ops : Array Oper} {op : Oper} {A : Act} {K : Act → World → Prop} {Q : Exit → Act → World → Prop} {F : Prop} (hgd : op.guard = none) (s x : Operand)
    (hop : op.op = .call { callee := .builtin .append, args := #[s, x], argTypes := #[t, t] })
    (E : ElemT P t e size bytes) {a : Option Addr} {n cap : Nat} {xs : List Value} (hs : A.eval s = .slice a n cap) (o : Own w (SP.slc e size a n cap xs :: l))
    {v : Value} {m : Nat} {news : List Value} (hx : A.eval x = v) (hsrc : IsSrc w v size m news)
    (h63 : n + m ≤ maxLen) (hbytes : (n + m) * bytes ≤ 140737488355328)
    (h : ∀ a' cap' w', Own w' (SP.slc e size a' (n + m) cap' (xs ++ news) :: l) → Calm w w' → K (A.put op.dst (.slice a' (n + m) cap')) w') :
    if Region.wanted op (yielded ops A.tmps) = true then Oper.wp P op A w K Q else F := by
  have hw : Region.wanted op (yielded ops A.tmps) = true := by simp [Region.wanted, hgd]
  rw [if_pos hw]
  obtain ⟨a', cap', w', hr, h2, h3⟩ := run_append_src op.type E o hsrc h63 hbytes
  unfold Oper.wp execOp
  simp only [hop, resolve, invoke, builtin, Sem.run_bind, Sem.run_pure, Result.andThen_ok, List.map_toArray, List.map_cons, List.map_nil, hs, hx, hr]
  exact h a' cap' w' h2 h3

/-- A slice of no element in a block of its own. -/
theorem slc_zero {b : Nat} (o : Own w (SP.cel b e [] :: l)) : Own w (SP.slc e size (some ⟨b, 0, none⟩) 0 0 [] :: l) :=
  Own.slc.2 (.inr ⟨b, [], rfl, Nat.le_refl _, by unfold maxLen; omega, by simp, by simp, o⟩)
theorem slc_plus {a : Option Addr} {n cap : Nat} {xs : List Value} (o : Own w (SP.slc e size a (0 + n) cap ([] ++ xs) :: l)) : Own w (SP.slc e size a n cap xs :: l) := by
  rw [Nat.zero_add, List.nil_append] at o
  exact o
end
end Go.Proofs.YtlccalkikjfimaaGreatDoor
