/- Parts in another order; the structure Rng: a map ranged over. -/
import Derived.Test.YtlccalkikjfimaaGreatDoorCom
import Derived.Test.YtlccalkikjfimaaGreatDoorRange
import Derived.Maps.OwnSet
namespace Go.Proofs.YtlccalkikjfimaaGreatDoor
open Go.RowKit
open SP

def mvUp : Nat → List SP → List SP
  | 0, l => l
  | _ + 1, [] => []
  | n + 1, B :: l => match mvUp n l with
    | [] => [B]
    | A :: l' => A :: B :: l'
theorem mvUp_perm : ∀ (n : Nat) (l : List SP), l.Perm (mvUp n l)
  | 0, l => .refl l
  | _ + 1, [] => .refl _
  | n + 1, B :: l => by
    have h := mvUp_perm n l
    unfold mvUp
    cases hm : mvUp n l with
    | nil => rw [hm] at h; exact h.cons B
    | cons A l' => rw [hm] at h; exact (h.cons B).trans (.swap A B l')
theorem Own.mvUp {w : World} {l : List SP} (n : Nat) (o : Own w l) : Own w (mvUp n l) := o.perm (mvUp_perm n l)
/-- The parts numbered ns first, in this order. -/
def reord : List Nat → List SP → List SP
  | [], l => l
  | n :: ns, l => mvUp (ns.length + n - (ns.filter (· < n)).length) (reord ns l)
theorem Own.reord {w : World} {l : List SP} (o : Own w l) : ∀ ns : List Nat, Own w (reord ns l)
  | [] => o
  | _ :: ns => (o.reord ns).mvUp _
theorem Own.dropN {w : World} : ∀ (d : Nat) {l : List SP}, Own w l → Own w (l.drop d)
  | 0, _, o => o
  | _ + 1, [], o => o
  | d + 1, _ :: _, o => Own.dropN d o.drop
/-- Bring parts to the front and drop the first d of them. -/
theorem Own.re {w : World} {l : List SP} (o : Own w l) (ns : List Nat) (d : Nat := 0) : Own w ((Go.Proofs.YtlccalkikjfimaaGreatDoor.reord ns l).drop d) := (o.reord ns).dropN d

section
variable {α : Type} {f : α → Value} {w : World} {l : List SP} {P : Program} {t kt et : TypeId} {b : Nat} {m : List (Int × α)}
theorem run_len_mpI (ty : TypeId) (ht : P.underlying t = some (.map kt et)) (o : Own w (SP.mpI f b m :: l)) :
    (Builtin.len_ #[t] ty #[.map (some b)]).run P w = .ok (.int .i64 (m.length : Int)) w := by
  obtain ⟨es, clock, h1, _, _, o⟩ := Own.mpI.1 o
  have hb := o.blk
  have hl : es.size = m.length := by have := congrArg List.length h1; simpa using this
  simp [Builtin.len_, run_underlying ht, getObj, Sem.run, hb, hl, goInt]
theorem wpList_len_mpI {ops : Array Oper} {rest : List Oper} {op : Oper} {A : Act} {Q : Exit → Act → World → Prop} (hgd : op.guard = none) (x : Operand)
    (hop : op.op = .call { callee := .builtin .len, args := #[x], argTypes := #[t] })
    (ht : P.underlying t = some (.map kt et)) (o : Own w (SP.mpI f b m :: l)) (hx : A.eval x = .map (some b))
    (h : wpList P ops Q rest (A.put op.dst (.int .i64 (m.length : Int))) w) : wpList P ops Q (op :: rest) A w := by
  refine wpList_plain hgd fun K hK => ?_
  unfold Oper.wp
  simp [execOp, hop, resolve, invoke, builtin, hx, run_len_mpI op.type ht o, Result.andThen]
  exact hK _ _ h
theorem run_clear_mpI (ty : TypeId) (ht : P.underlying t = some (.map kt et)) (o : Own w (SP.mpI f b m :: l)) :
    ∃ w', (Builtin.clear_ #[t] ty #[.map (some b)]).run P w = .ok (.tuple #[]) w' ∧ Own w' (SP.mpI f b ([] : List (Int × α)) :: l) ∧ Calm w w' := by
  obtain ⟨es, clock, h1, _, _, o⟩ := Own.mpI.1 o
  have hb := o.blk
  refine ⟨_, ?_, Own.mpI.2 ⟨#[], clock, rfl, by simp, by simp, o.setMap _⟩, ⟨rfl, rfl, rfl⟩⟩
  simp [Builtin.clear_, run_underlying ht, getObj, setObj, Sem.run, hb]
theorem wpList_clear_mpI {ops : Array Oper} {rest : List Oper} {op : Oper} {A : Act} {Q : Exit → Act → World → Prop} (hgd : op.guard = none) (x : Operand)
    (hop : op.op = .call { callee := .builtin .clear, args := #[x], argTypes := #[t] })
    (ht : P.underlying t = some (.map kt et)) (o : Own w (SP.mpI f b m :: l)) (hx : A.eval x = .map (some b))
    (h : ∀ w', Own w' (SP.mpI f b ([] : List (Int × α)) :: l) → Calm w w' → wpList P ops Q rest (A.put op.dst (.tuple #[])) w') : wpList P ops Q (op :: rest) A w := by
  refine wpList_plain hgd fun K hK => ?_
  obtain ⟨w', hr, h2, h3⟩ := run_clear_mpI op.type ht o
  unfold Oper.wp execOp
  simp only [hop, resolve, invoke, builtin, Sem.run_bind, Sem.run_pure, Result.andThen_ok, List.map_toArray, List.map_cons, List.map_nil, hx, hr]
  exact hK _ _ (h w' h2 h3)
end

theorem drop_at {α : Type} {l : List α} {i : Nat} {x : α} (h : l[i]? = some x) : l.drop i = x :: l.drop (i + 1) := by
  obtain ⟨h1, h2⟩ := List.getElem?_eq_some_iff.1 h
  rw [List.drop_eq_getElem_cons h1, h2]

/-! ### Maps that are ranged over while each entry is stored anew -/
section
variable {α : Type} {g : α → α} {S : Int → Bool}
def upd (g : α → α) (S : Int → Bool) (m : List (Int × α)) : List (Int × α) := m.map fun x => (x.1, if S x.1 then g x.2 else x.2)
theorem upd_keys (g : α → α) (S : Int → Bool) (m : List (Int × α)) : (upd g S m).map (·.1) = m.map (·.1) := by unfold upd; rw [List.map_map]; rfl
theorem upd_none (g : α → α) (m : List (Int × α)) : upd g (fun _ => false) m = m := by unfold upd; simp
theorem upd_all {m : List (Int × α)} (h : ∀ x ∈ m, S x.1 = true) : upd g S m = m.map fun x => (x.1, g x.2) := by
  unfold upd
  exact List.map_congr_left fun x hx => by rw [h x hx, if_pos rfl]
theorem upd_put : ∀ {m : List (Int × α)} (_ : Uniq m) {k : Int} {v : α} (_ : mget m k = some v), mput (upd g S m) k (g v) = upd g (fun z => S z || z == k) m
  | [], _, k, v, h => by simp [mget] at h
  | (k0, v0) :: m, hu, k, v, h => by
    unfold Uniq at hu
    rw [List.map_cons, List.nodup_cons] at hu
    unfold mget at h
    unfold upd
    simp only [List.map_cons]
    unfold mput
    by_cases hk : k = k0
    · subst hk
      rw [if_pos rfl] at h ⊢
      simp at h
      subst h
      simp only [BEq.rfl, Bool.or_true, if_true, List.cons.injEq, true_and]
      refine List.map_congr_left fun x hx => ?_
      have hne : x.1 ≠ k := fun e => hu.1 (List.mem_map.2 ⟨x, hx, e⟩)
      have : (x.1 == k) = false := by simpa using hne
      simp only [this, Bool.or_false]
    · rw [if_neg hk] at h ⊢
      have hb : (k0 == k) = false := by simpa using Ne.symm hk
      simp only [hb, Bool.or_false, List.cons.injEq, true_and]
      exact upd_put hu.2 h
theorem mget_upd : ∀ {m : List (Int × α)} (k : Int), mget (upd g S m) k = (mget m k).map (fun v => if S k then g v else v)
  | [], k => rfl
  | (k0, v0) :: m, k => by
    unfold upd
    simp only [List.map_cons]
    unfold mget
    by_cases hk : k = k0
    · subst hk; simp
    · rw [if_neg hk, if_neg hk]; exact mget_upd k
end

end Go.Proofs.YtlccalkikjfimaaGreatDoor
