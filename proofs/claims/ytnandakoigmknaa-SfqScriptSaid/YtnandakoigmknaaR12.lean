/- The reference of chapter 12 and 13: its lists, plain; New, goodWeight, Index. -/
import Derived.Test.YtnandakoigmknaaSfqG
import Derived.Test.YtnandakoigmknaaSfqW
import Derived.Test.YtnandakoigmknaaApp
import Derived.Test.YtnandakoigmknaaCompB
import Derived.Deep.RegionLaw
import Derived.Deep.DeepCutAuto
import Derived.Deep.CutBlock
namespace Go.Proofs.Ytnandakoigmknaa
open Go.RowKit
open SP

/-! ### Plain -/
def oldM (f : Int) (O : List Tg) : Int := O.foldl (fun a t => if t.f = f then max a t.s else a) 0
theorem oldM_snoc (f : Int) (O : List Tg) (t : Tg) : oldM f (O ++ [t]) = if t.f = f then max (oldM f O) t.s else oldM f O := by
  unfold oldM; rw [List.foldl_append]; rfl
theorem foldM_ne (f : Int) : ∀ (O : List Tg) (a : Int), (∀ t ∈ O, t.f ≠ f) → O.foldl (fun a t => if t.f = f then max a t.s else a) a = a
  | [], a, _ => rfl
  | t :: O, a, h => by
    rw [List.foldl_cons, if_neg (h t (by simp))]
    exact foldM_ne f O a (fun t ht => h t (by simp [ht]))
theorem foldM_del (f g : Int) (hg : g ≠ f) : ∀ (O : List Tg) (a : Int), (delT f O).foldl (fun a t => if t.f = g then max a t.s else a) a = O.foldl (fun a t => if t.f = g then max a t.s else a) a
  | [], a => rfl
  | t :: O, a => by
    unfold delT
    by_cases h : t.f = f
    · rw [List.filter_cons_of_neg (by simp [h]), List.foldl_cons, if_neg (by rw [h]; exact fun e => hg e.symm)]
      exact foldM_del f g hg O a
    · rw [List.filter_cons_of_pos (by simp [h]), List.foldl_cons, List.foldl_cons]
      exact foldM_del f g hg O _
theorem oldM_del (f g : Int) (O : List Tg) : oldM g (delT f O) = if g = f then 0 else oldM g O := by
  split
  · rename_i h
    subst h
    exact foldM_ne _ _ _ (fun t ht => (mem_delT.1 ht).2)
  · rename_i h
    exact foldM_del f g h O 0
def lowO (by_ : Int) (t : Tg) : Tg := ⟨t.f, t.w, max (t.s - by_) 0⟩
theorem foldM_low (f by_ : Int) (h0 : 0 ≤ by_) : ∀ (O : List Tg) (a : Int), (O.map (lowO by_)).foldl (fun a t => if t.f = f then max a t.s else a) (max (a - by_) 0) = max (O.foldl (fun a t => if t.f = f then max a t.s else a) a - by_) 0
  | [], a => rfl
  | t :: O, a => by
    rw [List.map_cons, List.foldl_cons, List.foldl_cons]
    have e : (if (lowO by_ t).f = f then max (max (a - by_) 0) (lowO by_ t).s else max (a - by_) 0) = max ((if t.f = f then max a t.s else a) - by_) 0 := by
      show (if t.f = f then max (max (a - by_) 0) (max (t.s - by_) 0) else max (a - by_) 0) = _
      split <;> omega
    rw [e]
    exact foldM_low f by_ h0 O _
theorem oldM_low (f by_ : Int) (h0 : 0 ≤ by_) (O : List Tg) : oldM f (O.map (lowO by_)) = max (oldM f O - by_) 0 := by
  have := foldM_low f by_ h0 O 0
  rw [show max ((0 : Int) - by_) 0 = 0 from by omega] at this
  exact this
/-- The lists of the reference say what the state says. -/
structure R12 (S : St) (O : List Tg) : Prop where
  old : ∀ f, oldM f O = S.old f
  act : ∀ t ∈ S.L, S.old t.f = 0
  rng : ∀ t ∈ O, 0 ≤ t.s ∧ t.s ≤ 1099511627776
theorem R12.start : R12 ⟨[], fun _ => 0, 0, 0⟩ [] := ⟨fun _ => rfl, fun t ht => by simp at ht, fun t ht => by simp at ht⟩

/-- The index of a flow, or -1. -/
def idxT (f : Int) : Nat → List Tg → Int
  | _, [] => -1
  | i, t :: l => if t.f = f then (i : Int) else idxT f (i + 1) l
theorem idxT_none {f : Int} : ∀ (k : Nat) (L : List Tg), fget L f = none → idxT f k L = -1
  | _, [], _ => rfl
  | k, t :: L, h => by
    have hn := fget_none.1 h
    rw [idxT, if_neg (hn t (by simp))]
    exact idxT_none (k + 1) L (fget_none.2 fun t ht => hn t (by simp [ht]))
theorem idxT_some {f : Int} {t : Tg} : ∀ (k : Nat) (L : List Tg), fget L f = some t → ∃ i, L[i]? = some t ∧ idxT f k L = ((k + i : Nat) : Int)
  | _, [], h => by simp [fget] at h
  | k, u :: L, h => by
    rw [fget_cons] at h
    by_cases hu : u.f = f
    · rw [if_pos hu] at h
      cases h
      exact ⟨0, rfl, by rw [idxT, if_pos hu]; rfl⟩
    · rw [if_neg hu] at h
      obtain ⟨i, h1, h2⟩ := idxT_some (k + 1) L h
      exact ⟨i + 1, h1, by rw [idxT, if_neg hu, h2]; congr 1; omega⟩

/-! ### The block; the lists lie in a pool -/
/-- How a slice's head looks. -/
def SlOk (a : Option Addr) (c : Nat) : Prop := (a = none ∧ c = 0) ∨ ∃ g, a = some ⟨g, 0, none⟩
def RefT (P : SP) (b : Nat) (at_ : Int) (L O : List Tg) (now aw : Int) : SP := ex fun (p : (Option Addr × Nat) × Option Addr × Nat) =>
  st [pu ((TagsAt P p.1.1 L ∧ SlOk p.1.1 p.1.2) ∧ L.length ≤ p.1.2 ∧ (TagsAt P p.2.1 O ∧ SlOk p.2.1 p.2.2) ∧ O.length ≤ p.2.2), cel b 103 [.int .i64 at_, .slice p.1.1 L.length p.1.2, .slice p.2.1 O.length p.2.2, .int .i64 now, .int .i64 aw]]
def PExtT (P P' : SP) : Prop := ∀ a L, TagsAt P a L → TagsAt P' a L
theorem PExtT.refl (P : SP) : PExtT P P := fun _ _ h => h
theorem PExtT.trans {A B C : SP} (h : PExtT A B) (k : PExtT B C) : PExtT A C := fun _ _ x => k _ _ (h _ _ x)
theorem PExtT.add (A S : SP) : PExtT S (st [A, S]) := fun _ _ h w R o i y hy => h w _ ((Own.st.1 o).up 1) i y hy
theorem TagsAt.new {S A : SP} {a : Option Addr} {L : List Tg} (h : TagsAt A a L) : TagsAt (st [A, S]) a L := fun w R o i y hy => h w _ (Own.st.1 o) i y hy
section
variable {P W' : SP} {W w w' : World} {R : List SP} {b : Nat} {at_ now aw : Int} {L O : List Tg}
theorem RefT.iff : Own w (RefT P b at_ L O now aw :: R) ↔ ∃ a c a2 c2, ((TagsAt P a L ∧ SlOk a c) ∧ L.length ≤ c ∧ (TagsAt P a2 O ∧ SlOk a2 c2) ∧ O.length ≤ c2) ∧ Own w (cel b 103 [.int .i64 at_, .slice a L.length c, .slice a2 O.length c2, .int .i64 now, .int .i64 aw] :: R) := by
  constructor
  · intro o
    obtain ⟨⟨⟨a, c⟩, a2, c2⟩, h⟩ := Own.ex.1 o
    obtain ⟨h1, h2⟩ := Own.pu.1 (Own.st.1 h)
    exact ⟨a, c, a2, c2, h1, h2⟩
  · rintro ⟨a, c, a2, c2, h1, h2⟩
    exact Own.ex.2 ⟨((a, c), a2, c2), Own.st.2 (Own.pu.2 ⟨h1, h2⟩)⟩
theorem RefT.mono {P' : SP} (h : PExtT P P') (o : Own w (RefT P b at_ L O now aw :: R)) : Own w (RefT P' b at_ L O now aw :: R) := by
  obtain ⟨a, c, a2, c2, ⟨h1, h2, h3, h4⟩, h5⟩ := RefT.iff.1 o
  exact RefT.iff.2 ⟨a, c, a2, c2, ⟨⟨h _ _ h1.1, h1.2⟩, h2, ⟨h _ _ h3.1, h3.2⟩, h4⟩, h5⟩
theorem slOk_slc {e : TypeId} {size : Nat} {a : Option Addr} {n c : Nat} {xs : List Value} (o : Own w (slc e size a n c xs :: R)) : SlOk a c := by
  rcases Own.slc.1 o with ⟨h1, _, h2, _⟩ | ⟨g, sp, h, _⟩
  · exact .inl ⟨h1, h2⟩
  · exact .inr ⟨g, h⟩
theorem tagsAt_nil (P : SP) (a : Option Addr) : TagsAt P a [] := fun w R o i y hy => by simp at hy
set_option maxHeartbeats 800000 in
theorem refNew12_spec (r : Int) (h1 : 1 ≤ r) (h2 : r ≤ 1099511627776) (o : Own w R) :
    Calls Try.prog 39 #[.int .i64 r] w fun e w' => ∃ b, Ret (.tuple #[.pointer (some ⟨b, 0, none⟩), .int .i64 0]) (RefT P b r [] [] 0 0 :: R) w e w' := by
  have o1 := o.alloc (.cells #[.int .i64 r, .slice none 0 0, .slice none 0 0, .int .i64 0, .int .i64 0] 103)
  go_enter Try.func39, Try.ntmps39
  go_wp2
  go_ret2
  exact ⟨_, rfl, RefT.iff.2 ⟨none, 0, none, 0, ⟨⟨tagsAt_nil _ _, .inl ⟨rfl, rfl⟩⟩, Nat.le_refl _, ⟨tagsAt_nil _ _, .inl ⟨rfl, rfl⟩⟩, Nat.le_refl _⟩, o1⟩, ⟨rfl, rfl, rfl⟩⟩
theorem goodW_spec (x : Int) (w : World) : Calls Try.prog 79 #[.int .i64 x] w (IsRet (.bool (decide (1 ≤ x ∧ x ≤ 16))) w) := by
  by_cases h1 : 1 ≤ x
  · have e : decide (1 ≤ x ∧ x ≤ 16) = decide (x ≤ 16) := by simp [h1]
    rw [e]; clear e
    go_enter Try.func79, Try.ntmps79
    go_wp2
    go_ret
    exact ⟨rfl, rfl⟩
  · have e : decide (1 ≤ x ∧ x ≤ 16) = false := by simp [h1]
    rw [e]; clear e
    go_enter Try.func79, Try.ntmps79
    go_wp2
    go_ret
    exact ⟨rfl, rfl⟩
def IdxRel (L : List Tg) (f T : Int) (w : World) (v : Value) (wr : World) : Prop := ∃ i : Nat, v = .int .i64 (i : Int) ∧ i ≤ L.length ∧ idxT f i (L.drop i) = T ∧ wr = w
set_option maxHeartbeats 800000 in
set_option maxRecDepth 100000 in
theorem index_spec (f : Int) (hL : L.length ≤ 1000) (o : Own w (RefT P b at_ L O now aw :: P :: R)) :
    Calls Try.prog 80 #[.pointer (some ⟨b, 0, none⟩), .int .i64 f] w (IsRet (.int .i64 (idxT f 0 L)) w) := by
  obtain ⟨a, c, a2, c2, ⟨⟨hP, -⟩, hc, -, -⟩, o1⟩ := RefT.iff.1 o
  have c1 := o1.cell 1
  have hT : IdxRel L f (idxT f 0 L) w (.int .i64 0) w := ⟨0, rfl, by omega, rfl, rfl⟩
  generalize idxT f 0 L = T at *
  generalize hn : L.length = n at *
  have Hn := Lib.hid hn
  clear hn
  go_enter Try.func80, Try.ntmps80
  go_wp2
  go_loopw [5] (fun v wr => IdxRel L f T w v wr) (fun v _ => n - (intOf v).toNat)
  case atStart => exact hT
  case round =>
    clear hT
    obtain ⟨i, rfl, hi, hE, rfl⟩ := hrel
    rw [Hn.out] at hi
    have HT := Lib.hid hE
    clear hE
    by_cases hlt : i < n
    · obtain ⟨⟨x, y, z⟩, hx⟩ : ∃ x, L[i]? = some x := ⟨_, List.getElem?_eq_getElem (by rw [Hn.out]; exact hlt)⟩
      obtain ⟨g, so, hg, d0, d1, d2⟩ := hP _ _ (o1.up 1) i _ hx
      subst hg
      have HD := Lib.hid (drop_cons hx)
      clear hx
      dsimp only at d0 d1 d2
      by_cases he : x = f
      · subst he
        go_wp2
        go_ret
        refine ⟨?_, rfl⟩
        rw [← HT.out, HD.out, idxT, if_pos rfl]; rfl
      · have heb : (x == f) = false := by simpa using he
        go_wp2
        go_roundw
        case rel => exact ⟨i + 1, by go_num, by rw [Hn.out]; omega, by rw [← HT.out, HD.out, idxT, if_neg he], rfl⟩
        case measure => simp [intOf]; omega
    · go_wp2
      go_ret
      refine ⟨?_, rfl⟩
      rw [← HT.out, List.drop_eq_nil_of_le (by rw [Hn.out]; omega)]; rfl
end
end Go.Proofs.Ytnandakoigmknaa
