/- Texts that the law rests on, put together by a program. -/
import Derived.Test.YtkmlkpfabkhleaaIwfqGoodA
import Derived.Test.YtkmlkpfabkhleaaProg
import Derived.Test.YtkmlkpfabkhleaaIwfqGoodB
import Derived.Deep.RegionHeld3
import Derived.Deep.DeepCutAuto
import Derived.Deep.CutBlock
import Derived.Shelf.SlMaps.Clone
/- Lists of tags in memory, behind a pool; parts of them as sources of an append. -/
namespace Go.Proofs.Ytkmlkpfabkhleaa
open Go.RowKit
open SP

/-! ### Lists of tags -/
/-- The list of tags that a slice at a holds, read behind Sp. -/
def TagsAt (Sp : SP) (a : Option Addr) (L : List Tg) : Prop := ∀ (w : World) (R : List SP), Own w (Sp :: R) → ∀ (i : Nat) (t : Tg), L[i]? = some t →
  ∃ g so, a = some ⟨g, so, none⟩ ∧ w.cell? ⟨g, so + i * 3, none⟩ = some (.int .i64 t.f) ∧ w.cell? ⟨g, so + i * 3 + 1, none⟩ = some (.int .i64 t.w) ∧ w.cell? ⟨g, so + i * 3 + 2, none⟩ = some (.int .i64 t.s)
theorem tagsAt_slcT {T : TypeId} (a : Option Addr) (n c : Nat) (L : List Tg) (hn : n = L.length) : TagsAt (slc T 3 a n c (flat tagC L)) a L := by
  intro w R o i t ht
  have := (List.getElem?_eq_some_iff.1 ht).1
  obtain ⟨g, h, hc, hf, hg⟩ := o.slc_cell (by omega)
  refine ⟨g, 0, h, ?_, ?_, ?_⟩
  · rw [Nat.zero_add]; exact hc (i * 3 + 0) _ (flat_get tagC_len L i 0 t ht (by omega))
  · rw [Nat.zero_add]; exact hc (i * 3 + 1) _ (flat_get tagC_len L i 1 t ht (by omega))
  · rw [Nat.zero_add]; exact hc (i * 3 + 2) _ (flat_get tagC_len L i 2 t ht (by omega))

theorem tagsAt_slc (a : Option Addr) (n c : Nat) (L : List Tg) (hn : n = L.length) : TagsAt (slc 106 3 a n c (flat tagC L)) a L := tagsAt_slcT a n c L hn
/-- The index of a flow, or -1. -/
def idxT (f : Int) : Nat → List Tg → Int
  | _, [] => -1
  | i, t :: l => if t.f = f then (i : Int) else idxT f (i + 1) l
theorem idxT_none {f : Int} : ∀ (k : Nat) (L : List Tg), fget L f = none → idxT f k L = -1
  | _, [], _ => rfl
  | k, t :: L, h => by
    have hn := fget_none.1 h
    rw [idxT, if_neg (hn t (by simp))]
    exact idxT_none (k + 1) L (fget_none.2 fun t ht => hn t (by simp [ht]))
theorem idxT_some {f : Int} {t : Tg} : ∀ (k : Nat) (L : List Tg), fget L f = some t → ∃ i, L[i]? = some t ∧ idxT f k L = ((k + i : Nat) : Int)
  | _, [], h => by simp [fget] at h
  | k, u :: L, h => by
    rw [fget_cons] at h
    by_cases hu : u.f = f
    · rw [if_pos hu] at h
      cases h
      exact ⟨0, rfl, by rw [idxT, if_pos hu]; rfl⟩
    · rw [if_neg hu] at h
      obtain ⟨i, h1, h2⟩ := idxT_some (k + 1) L h
      exact ⟨i + 1, h1, by rw [idxT, if_neg hu, h2]; congr 1; omega⟩

theorem insT_split (x : Tg) : ∀ (k : Nat) (L : List Tg), k ≤ L.length → (∀ (j : Nat) (t : Tg), j < k → L[j]? = some t → t.f < x.f) → (∀ t : Tg, L[k]? = some t → ¬ t.f < x.f) → insT x L = L.take k ++ [x] ++ L.drop k
  | 0, [], _, _, _ => rfl
  | 0, t :: L, _, _, h2 => by
    unfold insT
    rw [if_neg (h2 t rfl)]
    rfl
  | k + 1, [], hk, _, _ => by simp at hk
  | k + 1, t :: L, hk, h1, h2 => by
    unfold insT
    rw [if_pos (h1 0 t (by omega) rfl), insT_split x k L (by simpa using hk) (fun j u hj hu => h1 (j + 1) u (by omega) (by simpa using hu)) (fun u hu => h2 u (by simpa using hu))]
    rfl
/-- How a slice's head looks. -/
def SlOk (a : Option Addr) (c : Nat) : Prop := (a = none ∧ c = 0) ∨ ∃ g, a = some ⟨g, 0, none⟩
def PExtT (P P' : SP) : Prop := ∀ a L, TagsAt P a L → TagsAt P' a L
theorem PExtT.refl (P : SP) : PExtT P P := fun _ _ h => h
theorem PExtT.trans {A B C : SP} (h : PExtT A B) (k : PExtT B C) : PExtT A C := fun _ _ x => k _ _ (h _ _ x)
theorem PExtT.add (A S : SP) : PExtT S (st [A, S]) := fun _ _ h w R o i y hy => h w _ ((Own.st.1 o).up 1) i y hy
theorem TagsAt.new {S A : SP} {a : Option Addr} {L : List Tg} (h : TagsAt A a L) : TagsAt (st [A, S]) a L := fun w _ o i y hy => h w _ (Own.st.1 o) i y hy
theorem delT_len (f : Int) (L : List Tg) : (delT f L).length ≤ L.length := List.length_filter_le _ _
theorem take_snoc {α : Type} {L : List α} {i : Nat} {x : α} (h : L[i]? = some x) : L.take (i + 1) = L.take i ++ [x] := by rw [List.take_add_one, h]; rfl
theorem delT_snoc (f : Int) (L : List Tg) (t : Tg) : delT f (L ++ [t]) = if t.f = f then delT f L else delT f L ++ [t] := by
  unfold delT
  rw [List.filter_append]
  split
  · rename_i h; rw [List.filter_cons_of_neg (by simp [h])]; simp
  · rename_i h; rw [List.filter_cons_of_pos (by simp [h])]; simp

section
variable {W w w' : World} {R : List SP}
theorem slOk_slc {e : TypeId} {size : Nat} {a : Option Addr} {n c : Nat} {xs : List Value} (o : Own w (slc e size a n c xs :: R)) : SlOk a c := by
  rcases Own.slc.1 o with ⟨h1, _, h2, _⟩ | ⟨g, sp, h, _⟩
  · exact .inl ⟨h1, h2⟩
  · exact .inr ⟨g, h⟩
theorem tagsAt_nil (P : SP) (a : Option Addr) : TagsAt P a [] := fun w R o i y hy => by simp at hy
theorem tags_src {A : SP} {a : Option Addr} {n c : Nat} {L : List Tg} (hA : TagsAt A a L) (hn : n = L.length) (o : Own w (A :: R)) : IsSrc w (.slice a n c) 3 n (flat tagC L) := by
  refine ⟨a, c, rfl, by rw [flat_length tagC_len, hn], fun u hu => ?_, ?_⟩
  · obtain ⟨p, _, hp⟩ := List.mem_flatMap.1 hu
    unfold tagC at hp
    simp at hp
    rcases hp with rfl | rfl | rfl <;> rfl
  · cases L with
    | nil => exact .inl hn
    | cons p L' =>
      obtain ⟨g, so, rfl, _, _, _⟩ := hA _ _ o 0 p rfl
      refine .inr ⟨_, rfl, fun j u hu => ?_⟩
      have hadd : (⟨g, so, none⟩ : Addr).add j = ⟨g, so + j, none⟩ := by unfold Addr.add; split <;> simp_all
      rw [hadd]
      have hj : j < (p :: L').length * 3 := by have := (List.getElem?_eq_some_iff.1 hu).1; rwa [flat_length tagC_len] at this
      have hjk : j / 3 < (p :: L').length := by omega
      obtain ⟨t, ht⟩ : ∃ t, (p :: L')[j / 3]? = some t := ⟨_, List.getElem?_eq_getElem hjk⟩
      obtain ⟨g', so', h1, h2, h3, h4⟩ := hA _ _ o (j / 3) t ht
      cases h1
      have h5 := flat_get tagC_len (p :: L') (j / 3) (j % 3) t ht (Nat.mod_lt _ (by omega))
      rw [show j / 3 * 3 + j % 3 = j from by omega, hu] at h5
      have hm : j % 3 = 0 ∨ j % 3 = 1 ∨ j % 3 = 2 := by omega
      rcases hm with hm | hm | hm
      · rw [hm] at h5
        rw [show so + j = so + j / 3 * 3 from by omega, h2, h5]; rfl
      · rw [hm] at h5
        rw [show so + j = so + j / 3 * 3 + 1 from by omega, h3, h5]; rfl
      · rw [hm] at h5
        rw [show so + j = so + j / 3 * 3 + 2 from by omega, h4, h5]; rfl
theorem tags_cut {A : SP} {g so : Nat} {i k c : Nat} {L : List Tg} (hA : TagsAt A (some ⟨g, so, none⟩) L) (hik : i + k ≤ L.length) (o : Own w (A :: R)) :
    IsSrc w (.slice (some ⟨g, so + i * 3, none⟩) k c) 3 k (flat tagC ((L.drop i).take k)) := by
  have hl : ((L.drop i).take k).length = k := by rw [List.length_take, List.length_drop]; omega
  have hB : TagsAt A (some ⟨g, so + i * 3, none⟩) ((L.drop i).take k) := fun w R o j y hy => by
    have hj := (List.getElem?_eq_some_iff.1 hy).1
    rw [hl] at hj
    have hy2 : L[i + j]? = some y := by rw [List.getElem?_take, if_pos hj, List.getElem?_drop] at hy; exact hy
    obtain ⟨g', so', h1, h2, h3, h4⟩ := hA w R o (i + j) y hy2
    cases h1
    refine ⟨g, so + i * 3, rfl, ?_, ?_, ?_⟩
    · rw [← h2]; congr 2; omega
    · rw [← h3]; congr 2; omega
    · rw [← h4]; congr 2; omega
  exact tags_src hB hl.symm o

theorem at_world {op : Oper} {A : Act} {K : Act → World → Prop} {Q : Exit → Act → World → Prop} {F c : Prop} {h : Decidable c} (W : World) (hh : @ite Prop c h (Oper.wp Try.prog op A W K Q) F) : @ite Prop c h (Oper.wp Try.prog op A W K Q) F := hh
theorem news_src {T : TypeId} {nb : Nat} {t0 t1 t2 : Int} (o : Own w (cel nb T [.int .i64 t0, .int .i64 t1, .int .i64 t2] :: R)) : IsSrc w (.slice (some ⟨nb, 0, none⟩) 1 1) 3 1 [.int .i64 t0, .int .i64 t1, .int .i64 t2] :=
  ⟨_, _, rfl, rfl, by intro u hu; simp at hu; rcases hu with rfl | rfl | rfl <;> rfl, .inr ⟨_, rfl, fun j u hu => Own.news o j u hu⟩⟩
end
theorem flat_set {α : Type} {g : α → List Value} {sz : Nat} (hg : ∀ x, (g x).length = sz) : ∀ (L : List α) (i j : Nat) (x x' : α) (v : Value), L[i]? = some x → j < sz → g x' = (g x).set j v → flat g (L.set i x') = (flat g L).set (i * sz + j) v
  | [], i, j, x, x', v, h, _, _ => by simp at h
  | y :: L, 0, j, x, x', v, h, hj, he => by
    obtain rfl : y = x := by simpa using h
    show g x' ++ flat g L = (g y ++ flat g L).set (0 * sz + j) v
    rw [Nat.zero_mul, Nat.zero_add, List.set_append_left _ _ (by rw [hg]; exact hj), he]
  | y :: L, i + 1, j, x, x', v, h, hj, he => by
    have ih := flat_set hg L i j x x' v (by simpa using h) hj he
    show g y ++ flat g (L.set i x') = (g y ++ flat g L).set ((i + 1) * sz + j) v
    have e : (i + 1) * sz + j = sz + (i * sz + j) := by rw [Nat.add_mul]; omega
    rw [e, List.set_append_right _ _ (by rw [hg]; omega), hg, Nat.add_sub_cancel_left, ih]
theorem setT_atP {L : List Tg} (h : L.Pairwise fun a b => a.f < b.f) {i : Nat} {t x : Tg} (ht : L[i]? = some t) (hx : x.f = t.f) : L.set i x = setT x L := by
  apply List.ext_getElem?
  intro j
  unfold setT
  rw [List.getElem?_set, List.getElem?_map]
  by_cases hj : i = j
  · subst hj
    rw [if_pos rfl, if_pos (List.getElem?_eq_some_iff.1 ht).1, ht]
    simp [hx]
  · rw [if_neg hj]
    cases hu : L[j]? with
    | none => rfl
    | some u =>
      have hne : u.f ≠ x.f := fun he => by
        obtain ⟨h1, e1⟩ := List.getElem?_eq_some_iff.1 ht
        obtain ⟨h2, e2⟩ := List.getElem?_eq_some_iff.1 hu
        have hp := List.pairwise_iff_getElem.1 h
        rcases Nat.lt_or_gt_of_ne hj with h3 | h3
        · have := hp i j h1 h2 h3; rw [e1, e2] at this; omega
        · have := hp j i h2 h1 h3; rw [e1, e2] at this; omega
      simp [hne]
theorem delT_atP {L : List Tg} (h : L.Pairwise fun a b => a.f < b.f) {i : Nat} {t : Tg} (ht : L[i]? = some t) : L.take i ++ L.drop (i + 1) = delT t.f L := by
  obtain ⟨hi, ei⟩ := List.getElem?_eq_some_iff.1 ht
  have hp := List.pairwise_iff_getElem.1 h
  have hsp : L = L.take i ++ t :: L.drop (i + 1) := by rw [← ei, ← List.drop_eq_getElem_cons hi, List.take_append_drop]
  have h1 : ∀ y ∈ L.take i, y.f ≠ t.f := fun y hy he => by
    obtain ⟨j, hj, ej⟩ := List.mem_iff_getElem.1 hy
    rw [List.length_take] at hj
    rw [List.getElem_take] at ej
    have := hp j i (by omega) hi (by omega)
    rw [ej, ei] at this
    omega
  have h2 : ∀ y ∈ L.drop (i + 1), y.f ≠ t.f := fun y hy he => by
    obtain ⟨j, hj, ej⟩ := List.mem_iff_getElem.1 hy
    rw [List.length_drop] at hj
    rw [List.getElem_drop] at ej
    have := hp i (i + 1 + j) hi (by omega) (by omega)
    rw [ej, ei] at this
    omega
  conv => rhs; rw [hsp]
  unfold delT
  rw [List.filter_append, List.filter_cons_of_neg (by simp)]
  congr 1
  · exact (List.filter_eq_self.2 fun y hy => by simpa using h1 y hy).symm
  · exact (List.filter_eq_self.2 fun y hy => by simpa using h2 y hy).symm
end Go.Proofs.Ytkmlkpfabkhleaa

/- The error-free reference of the program: Leave, Tags, Valid, Least, Select. -/
namespace Go.Proofs.Ytkmlkpfabkhleaa
open Go.RowKit
open SP

section
variable {W w w' : World} {b : Nat} {reb : Int} {S : St} {R : List SP}

def ValidRel (L : List Tg) (Sp : SP) (R : List SP) (w : World) (v3 v8 : Value) (wr : World) : Prop :=
  ∃ (i : Nat) (last : Int), v8 = .int .i64 (i : Int) ∧ v3 = .int .i64 last ∧ i ≤ L.length ∧ (∀ t, L[i]? = some t → last < t.f) ∧ Own wr (Sp :: R) ∧ Calm w wr

set_option maxHeartbeats 3200000 in
set_option maxRecDepth 100000 in
theorem tagsValid_spec {Sp : SP} {L : List Tg} {a : Option Addr} {n c : Nat} (hS : TagsAt Sp a L) (hok : LOk L) (hn : n = L.length) (o : Own w (Sp :: R)) :
    Calls Try.prog 112 #[.slice a n c] w (Ret (.bool true) (Sp :: R) w) := by
  have hT : ValidRel L Sp R w (.int .i64 (-1)) (.int .i64 0) w := ⟨0, -1, rfl, rfl, by omega, fun t ht => by have := hok.rng t (List.mem_of_getElem? ht); omega, o, Calm.refl w⟩
  have hl := hok.len
  have hn2 : n ≤ 32 := by omega
  have Hn := Lib.hid hn
  clear hn
  go_enter Try.func112, Try.ntmps112
  go_wp2
  go_loopw [3, 8] (fun v3 v8 wr => ValidRel L Sp R w v3 v8 wr) (fun _ v8 _ => n - (intOf v8).toNat)
  case atStart => exact hT
  case round =>
    clear hT
    obtain ⟨i, last, rfl, rfl, hi, hlast, oR, kR⟩ := hrel
    by_cases hlt : i < n
    · obtain ⟨t, ht⟩ : ∃ t, L[i]? = some t := ⟨_, List.getElem?_eq_getElem (by have := Hn.out; omega)⟩
      obtain ⟨g, so, rfl, d0, d1, d2⟩ := hS _ _ oR i _ ht
      have h1 := hlast t ht
      have h2 := hok.rng t (List.mem_of_getElem? ht)
      have hnext : ∀ u, L[i + 1]? = some u → t.f < u.f := fun u hu => by
        have := List.pairwise_iff_getElem.1 hok.asc i (i + 1) (List.getElem?_eq_some_iff.1 ht).1 (List.getElem?_eq_some_iff.1 hu).1 (by omega)
        rw [(List.getElem?_eq_some_iff.1 ht).2, (List.getElem?_eq_some_iff.1 hu).2] at this
        exact this
      have HN := Lib.hid hnext
      obtain ⟨x, y, z⟩ := t
      dsimp only at d0 d1 d2 h1 h2 HN
      clear ht hlast hnext
      obtain ⟨h2, h3, h4, h5, h6, h7⟩ := h2
      have hw : decide (1 ≤ y ∧ y ≤ 16) = true := by simp; omega
      have hwt := fun w => weighty_spec y w
      rw [hw] at hwt
      clear hw
      have oA := oR.alloc (.cells #[.int .i64 x, .int .i64 y, .int .i64 z] 106)
      go_wp2_with (go_at_call 110; refine (hwt _).mono ?_; rintro e w1 ⟨rfl, rfl⟩)
      go_roundw
      case rel => exact ⟨i + 1, x, by go_num, rfl, by have := Hn.out; omega, HN.out, oA.drop, ⟨kR.os, kR.tape, kR.output⟩⟩
      case measure => simp [intOf]; omega
    · go_wp2
      go_ret
      exact ⟨rfl, oR, kR⟩

def LeastRelT (L : List Tg) (T : Nat) (Sp : SP) (R : List SP) (w : World) (v3 v16 : Value) (wr : World) : Prop :=
  ∃ (i best : Nat), v16 = .int .i64 (i : Int) ∧ v3 = .int .i64 (best : Int) ∧ i ≤ L.length ∧ best < L.length ∧ leastG L (L.drop i) i best = T ∧ Own wr (Sp :: R) ∧ Calm w wr

set_option maxHeartbeats 3200000 in
set_option maxRecDepth 100000 in
theorem tagsLeast_spec {Sp : SP} {L : List Tg} {a : Option Addr} {n c : Nat} (hS : TagsAt Sp a L) (hok : LOk L) (hn : n = L.length) (o : Own w (Sp :: R)) :
    Calls Try.prog 97 #[.slice a n c] w (Ret (.int .i64 (if L = [] then -1 else (leastN L : Int))) (Sp :: R) w) := by
  by_cases hz : L = []
  · rw [if_pos hz]
    have hn0 : n = 0 := by rw [hn, hz]; rfl
    subst hn0
    clear hn hz
    go_enter Try.func97, Try.ntmps97
    go_wp2
    go_ret
    exact ⟨rfl, o, Calm.refl w⟩
  · rw [if_neg hz]
    have hpos : 0 < n := by rw [hn]; exact List.length_pos_iff.2 hz
    have hl := hok.len
    have hn2 : n ≤ 32 := by omega
    have hv := tagsValid_spec (c := c) hS hok hn o
    have hT0 : leastG L (L.drop 0) 0 0 = leastN L := rfl
    generalize leastN L = T at *
    have HT0 := Lib.hid hT0
    have Hn := Lib.hid hn
    have hnb : ((n : Int) == 0) = false := by simp; omega
    clear hn hz hT0
    go_enter Try.func97, Try.ntmps97
    go_wp2_with (go_at_call 112; refine hv.mono ?_; rintro e w1 ⟨rfl, o1, k1⟩)
    have hT : LeastRelT L T Sp R w (.int .i64 0) (.int .i64 0) w1 := ⟨0, 0, rfl, rfl, by omega, by have := Hn.out; omega, HT0.out, o1, k1⟩
    go_wp2
    go_loopw [3, 16] (fun v3 v16 wr => LeastRelT L T Sp R w v3 v16 wr) (fun _ v16 _ => n - (intOf v16).toNat)
    case atStart => exact hT
    case round =>
      clear hT hv
      obtain ⟨i, best, rfl, rfl, hi, hb, hE, oR, kR⟩ := hrel
      have HT := Lib.hid hE
      clear hE
      by_cases hlt : i < n
      · obtain ⟨t, ht⟩ : ∃ t, L[i]? = some t := ⟨_, List.getElem?_eq_getElem (by have := Hn.out; omega)⟩
        obtain ⟨u, hu⟩ : ∃ u, L[best]? = some u := ⟨_, List.getElem?_eq_getElem (by have := Hn.out; omega)⟩
        obtain ⟨g, so, rfl, d0, d1, d2⟩ := hS _ _ oR i _ ht
        have oA := oR.alloc (.cells #[.int .i64 t.f, .int .i64 t.w, .int .i64 t.s] 106)
        obtain ⟨g', so', hgg, _, _, e2⟩ := hS _ _ (oA.up 1) best _ hu
        cases hgg
        have hstep : leastG L (L.drop i) i best = leastG L (L.drop (i + 1)) (i + 1) (if t.s < u.s then i else best) := by
          rw [drop_at ht, leastG, List.getD_eq_getElem?_getD, hu]; rfl
        have Hstep := Lib.hid hstep
        have hbn : best < n := by have := Hn.out; omega
        obtain ⟨x, y, z⟩ := t
        obtain ⟨x', y', z'⟩ := u
        dsimp only at d0 d1 d2 e2 Hstep
        clear ht hu hstep
        by_cases hc : z < z'
        · have hd : decide (z < z') = true := by simpa using hc
          go_wp2
          go_quiet (fail)
          go_wp2
          go_roundw
          case rel => exact ⟨i + 1, i, by go_num, rfl, by have := Hn.out; omega, by have := Hn.out; omega, by rw [← HT.out, Hstep.out, if_pos hc], oA.drop.drewN _, ⟨kR.os, kR.tape, kR.output⟩⟩
          case measure => simp [intOf]; omega
        · have hd : decide (z < z') = false := by simpa using hc
          go_wp2
          go_quiet (fail)
          go_wp2
          go_roundw
          case rel => exact ⟨i + 1, best, by go_num, rfl, by have := Hn.out; omega, hb, by rw [← HT.out, Hstep.out, if_neg (by omega)], oA.drop.drewN _, ⟨kR.os, kR.tape, kR.output⟩⟩
          case measure => simp [intOf]; omega
      · go_wp2
        go_ret
        have hbT : best = T := by rw [← HT.out, List.drop_eq_nil_of_le (by have := Hn.out; omega)]; rfl
        exact ⟨by rw [hbT]; rfl, oR, kR⟩

/-! ### Tags -/
def TagsRel (b ab rb : Nat) (reb : Int) (S : St) (m : List (Int × Tg)) (rem : List (Int × Int)) (a : Option Addr) (cap : Nat) (ks : List Int) (R : List SP) (w : World) (v3 v13 : Value) (wr : World) : Prop :=
  ∃ (i : Nat) (a' : Option Addr) (c' : Nat), v13 = .int .i64 (i : Int) ∧ i ≤ S.L.length ∧ v3 = .slice a' i c' ∧
    Own wr (slc 106 3 a' i c' (flat tagC (S.L.take i)) :: slc 3 1 a ks.length cap (ks.map (Value.int .i64)) :: cel b 126 [.int .i64 reb, .map (some ab), .map (some rb), .int .i64 S.tm, .int .i64 S.aw] :: mpI tagV ab m :: mpI (Value.int .i64) rb rem :: R) ∧ Calm w wr

def TagsPost (b : Nat) (reb : Int) (S : St) (R : List SP) (w : World) (e : Ending) (w' : World) : Prop :=
  ∃ (a : Option Addr) (c : Nat), Ret (.slice a S.L.length c) (slc 106 3 a S.L.length c (flat tagC S.L) :: SfqR b reb S :: R) w e w'

set_option maxHeartbeats 3200000 in
set_option maxRecDepth 100000 in
theorem sfqTags_spec (o : Own w (SfqR b reb S :: R)) :
    Calls Try.prog 51 #[.pointer (some ⟨b, 0, none⟩)] w (TagsPost b reb S R w) := by
  obtain ⟨ab, rb, m, rem, hm, hold, hur, hok, o1⟩ := SfqR.iff.1 o
  have c1 := o1.cell 1
  have Hold := Lib.hid hold
  clear hold
  have hlen := hm.ok.len
  have hml := hm.len
  have hks := hm.sort
  go_enter Try.func51, Try.ntmps51
  go_wp2_with fail
  refine (keysTag_spec _ _).mono ?_
  rintro e1 w1 ⟨rfl, rfl⟩
  have o2 := ((o1.alloc (.cells #[.map (some ab)] 123)).up 2).up 1
  go_wp2_with fail
  refine (sortedTag_spec w.heap.size hm.keyOk (by omega) o2).mono ?_
  rintro e2 w2 ⟨a, cap, rfl, o3, k3⟩
  rw [hks] at o3
  have hkl : (S.L.map (·.f)).length = m.length := by rw [List.length_map, hml]
  rw [← hkl] at o3 ⊢
  have hget : ∀ (i : Nat) (t : Tg), S.L[i]? = some t → (S.L.map (·.f))[i]? = some t.f := fun i t h => by rw [List.getElem?_map, h]; rfl
  have Hget := Lib.hid hget
  have hkn : (S.L.map (·.f)).length = S.L.length := List.length_map _
  generalize S.L.map (·.f) = ks at *
  have hT : TagsRel b ab rb reb S m rem a cap ks R w (.slice none 0 0) (.int .i64 0) w2 :=
    ⟨0, none, 0, rfl, by omega, rfl, Own.slc_nil (o3.re [0, 2, 1, 3]), ⟨k3.os, k3.tape, k3.output⟩⟩
  have Hkn := Lib.hid hkn
  have hk32 : ks.length ≤ 32 := by omega
  clear hkn hkl hks hml o3 k3 o2 o1 c1 hget
  go_wp2
  go_loopw [3, 13] (fun v3 v13 wr => TagsRel b ab rb reb S m rem a cap ks R w v3 v13 wr) (fun _ v13 _ => ks.length - (intOf v13).toNat)
  case atStart => exact hT
  case round =>
    clear hT
    obtain ⟨i, a', c', rfl, hi, rfl, oR, kR⟩ := hrel
    by_cases hlt : i < ks.length
    · obtain ⟨t, ht⟩ : ∃ t, S.L[i]? = some t := ⟨_, List.getElem?_eq_getElem (by have := Hkn.out; omega)⟩
      have hkt := Hget.out i t ht
      obtain ⟨g, rfl, hc, _, _⟩ := (oR.up 1).slc_cell (by omega)
      have d0 := hc i (.int .i64 t.f) (by rw [List.getElem?_map, hkt]; rfl)
      have c1 := (oR.up 2).cell 1
      have hfg := fget_mem hm.ok (List.mem_of_getElem? ht)
      have hlk := lookT_one (oR.up 3) hm hfg
      have htk : S.L.take (i + 1) = S.L.take i ++ [t] := by rw [List.take_add_one, ht]; rfl
      have HTK := Lib.hid htk
      have oA := oR.alloc (.cells #[.int .i64 t.f, .int .i64 t.w, .int .i64 t.s] 106)
      clear hc hkt ht hfg htk
      go_wp2_with (at_builtin; refine wpList_append_slc rfl _ _ rfl Try.tagT rfl (oA.up 1) ⟨wr.heap.size, 0, none⟩ 1 1 [.int .i64 t.f, .int .i64 t.w, .int .i64 t.s] rfl rfl ?c1 ?c2 ?c3 ?c4 ?c5)
      case c1 => exact Own.news (T := 106) oA
      case c2 => intro u hu; simp at hu; rcases hu with rfl | rfl | rfl <;> rfl
      case c3 => unfold maxLen; omega
      case c4 => omega
      case c5 =>
      intro a2 c2 w5 o5 k5
      go_wp2
      go_roundw
      case rel =>
        refine ⟨i + 1, a2, c2, by go_num, by have := Hkn.out; omega, rfl, ?_, kR.trans ⟨k5.os, k5.tape, k5.output⟩⟩
        rw [HTK.out, flat_append]
        exact (o5.up 1).drop
      case measure => simp [intOf]; omega
    · have hin : i = S.L.length := by have := Hkn.out; omega
      subst hin
      rw [List.take_length] at oR
      go_wp2
      go_ret
      refine ⟨a', c', rfl, ?_, kR⟩
      refine Own.swap (SfqR.iff.2 ⟨ab, rb, m, rem, hm, Hold.out, hur, hok, ?_⟩)
      exact (oR.re [1, 2, 3, 4, 0] 1)

set_option maxHeartbeats 1600000 in
set_option maxRecDepth 100000 in
theorem sfqSelect_spec (o : Own w (SfqR b reb S :: R)) :
    Calls Try.prog 74 #[.pointer (some ⟨b, 0, none⟩)] w (Ret (.tuple #[.int .i64 (selT S.L).1, .int .i64 (selT S.L).2]) (SfqR b reb S :: R) w) := by
  have hok := (SfqR.ok o).ok
  go_enter Try.func74, Try.ntmps74
  go_wp2_with fail
  refine (sfqTags_spec o).mono ?_
  rintro e1 w1 ⟨a, c, rfl, o1, k1⟩
  have hS := tagsAt_slc a S.L.length c S.L rfl
  go_wp2_with fail
  refine (tagsLeast_spec hS hok rfl o1).mono ?_
  rintro e2 w2 ⟨rfl, o2, k2⟩
  by_cases hz : S.L = []
  · have e1 : selT S.L = (0, 5) := if_pos hz
    have HE := Lib.hid e1
    rw [if_pos hz]
    clear hz e1
    go_wp2
    go_ret2
    rw [HE.out]
    exact ⟨rfl, o2.drop, k1.trans k2⟩
  · have e1 : selT S.L = ((lst S.L).f, 0) := if_neg hz
    have hlt := leastN_lt hz
    have hgt : S.L[leastN S.L]? = some (lst S.L) := by unfold lst; rw [List.getD_eq_getElem?_getD, List.getElem?_eq_getElem hlt]; rfl
    obtain ⟨g, so, rfl, d0, _, _⟩ := hS _ _ o2 _ _ hgt
    have HE := Lib.hid e1
    rw [if_neg hz]
    have hl32 := hok.len
    clear hz e1 hgt hS
    generalize leastN S.L = k at *
    generalize lst S.L = t at *
    go_wp2
    go_ret2
    rw [HE.out]
    exact ⟨rfl, o2.drop, k1.trans k2⟩
end
end Go.Proofs.Ytkmlkpfabkhleaa

/- The error-free reference of the program: subtract, Charge. -/
namespace Go.Proofs.Ytkmlkpfabkhleaa
open Go.RowKit
open SP

section
variable {W w w' : World} {b : Nat} {reb : Int} {S : St} {R : List SP}

def lowT (by_ : Int) (t : Tg) : Tg := ⟨t.f, t.w, t.s - by_⟩
def lowI (by_ : Int) (v : Int) : Int := max (v - by_) 0

def SubRel1 (b ab rb ib : Nat) (reb tm aw by_ : Int) (m : List (Int × Tg)) (rem : List (Int × Int)) (R : List SP) (w wr : World) : Prop :=
  ∃ (X : Int → Bool) (cur : Option Int) (m' : List (Int × Tg)), True = True ∧ m' = upd (lowT by_) X m ∧
    Own wr (rng tagV ab ib m' X cur :: cel b 126 [.int .i64 reb, .map (some ab), .map (some rb), .int .i64 tm, .int .i64 aw] :: mpI (Value.int .i64) rb rem :: R) ∧ Calm w wr
def SubRel2 (b ab rb ib : Nat) (reb tm aw by_ : Int) (m : List (Int × Tg)) (rem : List (Int × Int)) (R : List SP) (w wr : World) : Prop :=
  ∃ (X : Int → Bool) (cur : Option Int) (r' : List (Int × Int)), True = True ∧ r' = upd (lowI by_) X rem ∧
    Own wr (rng (Value.int .i64) rb ib r' X cur :: cel b 126 [.int .i64 reb, .map (some ab), .map (some rb), .int .i64 tm, .int .i64 aw] :: mpI tagV ab m :: R) ∧ Calm w wr

theorem tget_lowI {by_ : Int} (h : 0 ≤ by_) (rem : List (Int × Int)) (f : Int) : tget (rem.map fun x => (x.1, lowI by_ x.2)) f = max (tget rem f - by_) 0 := by
  have : rem.map (fun x => (x.1, lowI by_ x.2)) = upd (lowI by_) (fun _ => true) rem := by unfold upd; simp
  rw [this]
  unfold tget
  rw [mget_upd]
  cases mget rem f with
  | none => simp; omega
  | some v => simp [lowI]

set_option maxHeartbeats 6400000 in
set_option maxRecDepth 100000 in
theorem sfqSub_spec (by_ : Int) (h0 : 0 ≤ by_) (h1 : by_ ≤ S.tm) (h2 : ∀ t ∈ S.L, by_ ≤ t.s) (haw : 0 ≤ S.aw ∧ S.aw ≤ 1152921504606846976) (o : Own w (SfqR b reb S :: R)) :
    Calls Try.prog 100 #[.pointer (some ⟨b, 0, none⟩), .int .i64 by_] w (Ret (.tuple #[]) (SfqR b reb (subS S by_) :: R) w) := by
  obtain ⟨ab, rb, m, rem, hm, hold, hur, hok, o1⟩ := SfqR.iff.1 o
  have hok1 := hok.sub h0 h1 h2
  have hby : by_ ≤ 1099511627776 := by have := hok.tm; omega
  have htm := hok.tm
  have hmr : ∀ x ∈ m, by_ ≤ x.2.s ∧ x.2.s ≤ 1099511627776 ∧ x.2.f = x.1 := fun x hx => by
    obtain ⟨t, ht, he⟩ := List.mem_map.1 (hm.perm.mem_iff.1 hx)
    rw [← he]
    exact ⟨h2 t ht, (hok.ok.rng t ht).2.2.2.2.2, rfl⟩
  have hrr : ∀ x ∈ rem, 0 ≤ x.2 ∧ x.2 ≤ 1099511627776 := fun x hx => by
    have h3 := hold x.1
    have h4 := hok.old x.1
    rw [← h3] at h4
    unfold tget at h4
    rw [mget_mem hur hx] at h4
    exact h4
  have hum := hm.uniq
  have hfin : Rep (m.map fun p => (p.1, lowT by_ p.2)) (subS S by_).L := hm.map (lowT by_) (fun _ => rfl) hok1.ok
  have hfin2 : ∀ f, tget (rem.map fun x => (x.1, lowI by_ x.2)) f = (subS S by_).old f := fun f => by rw [tget_lowI h0, hold]; rfl
  have hfin3 : Uniq (rem.map fun x => (x.1, lowI by_ x.2)) := by
    unfold Uniq
    rw [List.map_map]
    exact hur
  have Hmr := Lib.hid hmr
  have Hrr := Lib.hid hrr
  have HF := Lib.hid hfin
  have HF2 := Lib.hid hfin2
  have HF3 := Lib.hid hfin3
  have HOK := Lib.hid hok1
  obtain ⟨w5, hr5, o9, k9⟩ := run_range_mpI (P := Try.prog) Try.underlying123 (o1.up 1)
  have hT : SubRel1 b ab rb w.heap.size reb S.tm S.aw by_ m rem R w w5 := ⟨fun _ => false, none, m, rfl, (upd_none _ _).symm, o9, k9⟩
  have c1 := o1.cell 1
  have e1 : subS S by_ = ⟨S.L.map (lowT by_), fun g => max (S.old g - by_) 0, S.tm - by_, S.aw + by_⟩ := rfl
  have HE1 := Lib.hid e1
  generalize hTM : S.tm = TM at *
  generalize hAW : S.aw = AW at *
  generalize hib : w.heap.size = ib at *
  clear hfin hfin2 hfin3 hok1 hmr hrr hold hok h2 o9 k9 e1 hTM hAW hib
  go_enter Try.func100, Try.ntmps100
  go_wp2
  go_loopw [13] (fun _ wr => SubRel1 b ab rb ib reb TM AW by_ m rem R w wr) (fun _ wr => rleft wr ab ib)
  case atStart => exact hT
  case round =>
    clear hT hr5 c1 o1 o
    obtain ⟨X, cur, m', _, hm', oR, kR⟩ := hrel
    have Hm := Lib.hid hm'
    have hkm : m'.map (·.1) = m.map (·.1) := by rw [hm', upd_keys]
    have hum' : Uniq m' := by unfold Uniq; rw [hkm]; exact hum
    clear hm'
    rcases run_next_rng (P := Try.prog) 0 hum' oR with ⟨hd, hr⟩ | ⟨x, w6, hx, hS, hr, o10, k10⟩
    · have hall : ∀ x ∈ m, X x.1 = true := fun x hx => by
        have : x.1 ∈ m'.map (·.1) := by rw [hkm]; exact List.mem_map.2 ⟨x, hx, rfl⟩
        obtain ⟨y, hy, hyx⟩ := List.mem_map.1 this
        rw [← hyx]; exact hd y hy
      have oD := oR.rng_done
      rw [Hm.out, upd_all hall] at oD
      have g2 := (oD.up 1).cell 2
      obtain ⟨w7, hr7, o7, k7⟩ := run_range_mpI (P := Try.prog) Try.underlying124 (oD.up 2)
      have hT2 : SubRel2 b ab rb wr.heap.size reb TM AW by_ (m.map fun p => (p.1, lowT by_ p.2)) rem R w w7 := ⟨fun _ => false, none, rem, rfl, (upd_none _ _).symm, o7.re [0, 2, 1], kR.trans k7⟩
      have HFm := HF
      generalize (m.map fun p => (p.1, lowT by_ p.2)) = m1 at *
      generalize wr.heap.size = ib2 at *
      clear hd hall o7 k7 HF
      go_wp2
      go_loopw [34] (fun _ wr => SubRel2 b ab rb ib2 reb TM AW by_ m1 rem R w wr) (fun _ wr => rleft wr rb ib2)
      case atStart => exact hT2
      case round =>
        clear hT2 hr7 g2 oD oR kR hr
        obtain ⟨X, cur, r', _, hr', oR, kR⟩ := hrel
        have Hr := Lib.hid hr'
        have hkr : r'.map (·.1) = rem.map (·.1) := by rw [hr', upd_keys]
        have hur' : Uniq r' := by unfold Uniq; rw [hkr]; exact hur
        clear hr'
        rcases run_next_rng (P := Try.prog) 0 hur' oR with ⟨hd, hr⟩ | ⟨x, w6, hx, hS, hr, o10, k10⟩
        · have hall : ∀ x ∈ rem, X x.1 = true := fun x hx => by
            have : x.1 ∈ r'.map (·.1) := by rw [hkr]; exact List.mem_map.2 ⟨x, hx, rfl⟩
            obtain ⟨y, hy, hyx⟩ := List.mem_map.1 this
            rw [← hyx]; exact hd y hy
          have oD := oR.rng_done
          rw [Hr.out, upd_all hall] at oD
          have g3 := (oD.up 1).cell 3
          have g4 := (oD.up 1).cell 4
          have gf := (oD.up 1).frozen
          have gb := (oD.up 1).celLt
          have oE := ((oD.up 1).setCell 3 (.int .i64 (TM - by_))).setCell 4 (.int .i64 (AW + by_))
          clear hd hall
          go_wp2
          go_end0
          refine ⟨rfl, SfqR.iff.2 ⟨ab, rb, _, _, HFm.out, HF2.out, HF3.out, HOK.out, ?_⟩, ⟨kR.os, kR.tape, kR.output⟩⟩
          rw [HE1.out]
          exact oE.re [0, 2, 1]
        · obtain ⟨key, val⟩ := x
          dsimp only at hS hr o10
          have hmv : mget r' key = some val := mget_mem hur' hx
          have hmt : mget rem key = some val := by
            rw [Hr.out, mget_upd] at hmv
            simp only [hS, Bool.false_eq_true, if_false, Option.map_eq_some_iff, exists_eq_right] at hmv
            exact hmv
          have hvr := Hrr.out _ (mem_of_mget hmt)
          dsimp only at hvr
          have hen := run_entry_rng (P := Try.prog) hur' o10 hmv
          have g6 := (o10.up 1).cell 2
          have hin : (mget r' key).isSome = true := by rw [hmv]; rfl
          have Hmv := Lib.hid hmv
          have Hin := Lib.hid hin
          have Hmt := Lib.hid hmt
          clear hmv hin hmt
          go_wp2_with (at_mapUpdate; refine wpList_mapUpdate_rng rfl _ _ _ rfl Try.underlying124 Try.underlying3 hur' o10 key (max (val - by_) 0) Hin.out rfl rfl rfl ?k2)
          case k2 =>
          intro w7 o11 k11
          go_wp2
          go_roundw
          case rel =>
            refine ⟨_, _, _, rfl, ?_, o11, (kR.trans k10).trans k11⟩
            rw [Hr.out]; exact upd_put hur Hmt.out
          case measure =>
            rw [o11.rleft, oR.rleft, kleft_mput (List.mem_map.2 ⟨_, hx, rfl⟩)]
            exact kleft_lt hx hS
    · obtain ⟨key, t⟩ := x
      dsimp only at hS hr o10
      have hmv : mget m' key = some t := mget_mem hum' hx
      have hmt : mget m key = some t := by
        rw [Hm.out, mget_upd] at hmv
        simp only [hS, Bool.false_eq_true, if_false, Option.map_eq_some_iff, exists_eq_right] at hmv
        exact hmv
      have hvr := Hmr.out _ (mem_of_mget hmt)
      dsimp only at hvr
      have hen := run_entry_rng (P := Try.prog) hum' o10 hmv
      obtain ⟨x, y, z⟩ := t
      unfold tagV at hen
      dsimp only at hen hvr
      obtain ⟨hv1, hv2, rfl⟩ := hvr
      have g6 := (o10.up 1).cell 1
      have gb := (o10.up 1).celLt
      have oA := o10.alloc (.cells #[.int .i64 x, .int .i64 y, .int .i64 (z - by_)] 106)
      have hin : (mget m' x).isSome = true := by rw [hmv]; rfl
      have Hmv := Lib.hid hmv
      have Hin := Lib.hid hin
      have Hmt := Lib.hid hmt
      clear hmv hin hmt
      go_wp2
      refine wp_region_tail 6 (by kernel_rfl) (by kernel_rfl) ?_
      simp only [List.take_succ_cons, List.take_zero, List.drop_succ_cons, List.drop_zero]
      repeat still_step
      refine wpStill_nil ?_
      go_wp2_with (at_mapUpdate; refine wpList_mapUpdate_rng (f := tagV) rfl _ _ _ rfl Try.underlying123 Try.underlying3 hum' ((oA.up 1).drew) x (lowT by_ ⟨x, y, z⟩) Hin.out rfl rfl rfl ?k3)
      case k3 =>
      intro w7 o11 k11
      go_wp2
      go_roundw
      case rel =>
        refine ⟨_, _, _, rfl, ?_, o11.re [0, 2, 3, 1] |>.re [3, 0, 1, 2] 1, (kR.trans k10).trans ⟨k11.os, k11.tape, k11.output⟩⟩
        rw [Hm.out]; exact upd_put hum Hmt.out
      case measure =>
        rw [o11.rleft, oR.rleft, kleft_mput (List.mem_map.2 ⟨_, hx, rfl⟩)]
        exact kleft_lt hx hS
end
end Go.Proofs.Ytkmlkpfabkhleaa

/- The error-free reference of the program: Charge. -/
namespace Go.Proofs.Ytkmlkpfabkhleaa
open Go.RowKit
open SP

section
variable {W w w' : World} {b : Nat} {reb : Int} {S : St} {R : List SP}

/-- The reference with its maps named. -/
def SfqK (b : Nat) (reb : Int) (ab rb : Nat) (S : St) (m : List (Int × Tg)) (rem : List (Int × Int)) : SP :=
  st [cel b 126 [.int .i64 reb, .map (some ab), .map (some rb), .int .i64 S.tm, .int .i64 S.aw], mpI tagV ab m, mpI (Value.int .i64) rb rem]
theorem SfqK.iff {ab rb : Nat} {m : List (Int × Tg)} {rem : List (Int × Int)} : Own w (SfqK b reb ab rb S m rem :: R) ↔
    Own w (cel b 126 [.int .i64 reb, .map (some ab), .map (some rb), .int .i64 S.tm, .int .i64 S.aw] :: mpI tagV ab m :: mpI (Value.int .i64) rb rem :: R) := Own.st

theorem chargeR_err {f len : Int} {t : Tg} (h : fget S.L f = some t) (he : (finF t.s len t.w).2 ≠ 0) : chargeR reb S f len = ((finF t.s len t.w).2, S) := by
  unfold chargeR; rw [h]; exact if_pos he
theorem chargeR_ok {f len nx : Int} {t : Tg} (h : fget S.L f = some t) (he : finF t.s len t.w = (nx, 0)) : chargeR reb S f len = (0, rebS reb (chS S t nx)) := by
  unfold chargeR; rw [h]; simp only [he]; exact if_neg (by simp)

set_option maxHeartbeats 6400000 in
set_option maxRecDepth 100000 in
theorem sfqCharge_spec (f len : Int) (haw : 0 ≤ S.aw ∧ S.aw ≤ 1152921504606846976) (o : Own w (SfqR b reb S :: R)) :
    Calls Try.prog 78 #[.pointer (some ⟨b, 0, none⟩), .int .i64 f, .int .i64 len] w (Ret (.int .i64 (chargeR reb S f len).1) (SfqR b reb (chargeR reb S f len).2 :: R) w) := by
  obtain ⟨ab, rb, m, rem, hm, hold, hur, hok, o1⟩ := SfqR.iff.1 o
  have c1 := o1.cell 1
  have Hold := Lib.hid hold
  clear hold
  cases hf : fget S.L f with
  | none =>
    have e : chargeR reb S f len = (6, S) := by unfold chargeR; rw [hf]
    rw [e]; clear e
    have hlk := lookT_none (o1.up 1) hm hf
    clear hf
    go_enter Try.func78, Try.ntmps78
    go_wp2
    go_ret
    exact ⟨rfl, o.more _, ⟨rfl, rfl, rfl⟩⟩
  | some t =>
    have hlk := lookT_some (o1.up 1) hm hf
    have hbl := o1.celLt
    obtain ⟨htm, htf⟩ := fget_some hf
    obtain ⟨x, y, z⟩ := t
    dsimp only at htf
    subst htf
    have htr := hok.ok.rng _ htm
    dsimp only at htr hlk
    cases hfin : finF z len y with
    | mk nx er =>
    have hfs := finish_spec z len y
    rw [hfin] at hfs
    unfold pairV at hfs
    dsimp only at hfs
    by_cases her : er = 0
    · subst her
      rw [chargeR_ok hf hfin]
      have hok2 := finF_ok (show (finF z len y).2 = 0 by rw [hfin])
      rw [hfin] at hok2
      have hnx : 0 ≤ nx ∧ nx ≤ 1099511627776 := by
        obtain ⟨h1, h2, h3, h4⟩ := hok2
        dsimp only at h1
        have := cst_range (len := len) (wt := y) (by unfold badLW at h2; omega) (by unfold badLW at h2; omega) (by unfold badLW at h2; omega) (by unfold badLW at h2; omega)
        omega
      have hokC := hok.ch htm hnx
      have hrep : Rep (mput m x ⟨x, y, nx⟩) (setT ⟨x, y, nx⟩ S.L) := by
        have := hm.set (x := ⟨x, y, nx⟩) (by rw [hf]; simp) ⟨htr.1, htr.2.1, htr.2.2.1, htr.2.2.2.1, hnx.1, hnx.2⟩
        exact this
      have hne : S.L ≠ [] := List.ne_nil_of_mem htm
      have c3 := o1.cell 3
      obtain ⟨tm1, htm1⟩ : ∃ x, max S.tm z = x := ⟨_, rfl⟩
      have hST : chS S ⟨x, y, z⟩ nx = ⟨setT ⟨x, y, nx⟩ S.L, S.old, tm1, S.aw⟩ := by unfold chS; rw [htm1]
      have oM := (o1.setCell 3 (.int .i64 tm1)).alloc (.cells #[.int .i64 x, .int .i64 y, .int .i64 nx] 106)
      have hne1 : setT (⟨x, y, nx⟩ : Tg) S.L ≠ [] := setT_ne hne
      rw [hST] at hokC ⊢
      have gf := o1.frozen
      clear hfin hok2 hf hne hST
      go_enter Try.func78, Try.ntmps78
      go_wp2_with (go_at_call 99; refine (hfs _).mono ?_; rintro e2 w2 ⟨rfl, rfl⟩)
      refine wp_region_tail 8 (by kernel_rfl) (by kernel_rfl) ?_
      simp only [List.take_succ_cons, List.take_zero, List.drop_succ_cons, List.drop_zero]
      repeat still_step
      refine wpStill_nil ?_
      go_wp2
      refine wp_region_tail 6 (by kernel_rfl) (by kernel_rfl) ?_
      simp only [List.take_succ_cons, List.take_zero, List.drop_succ_cons, List.drop_zero]
      repeat still_step
      refine wpStill_nil ?_
      go_wp2_with (at_mapUpdate; refine wpList_mapUpdate_mpI (f := tagV) rfl _ _ _ rfl Try.underlying123 Try.underlying3 (((oM.up 2).drew).drew) x ⟨x, y, nx⟩ rfl rfl rfl ?c1)
      case c1 =>
      intro w3 o3 k3
      have oS : Own w3 (SfqR b reb ⟨setT ⟨x, y, nx⟩ S.L, S.old, tm1, S.aw⟩ :: R) := SfqR.iff.2 ⟨ab, rb, _, rem, hrep, Hold.out, hur, hokC, o3.re [1, 2, 0, 3] 1⟩
      have K3 : Calm w w3 := ⟨k3.os, k3.tape, k3.output⟩
      clear o3 k3 oM hrep gf c3 hbl hlk c1 o1
      have hbS : byS ⟨setT ⟨x, y, nx⟩ S.L, S.old, tm1, S.aw⟩ = min tm1 (lst (setT ⟨x, y, nx⟩ S.L)).s := rfl
      have hrb := byS_rng hokC hne1
      have HR : Hid (rebS reb ⟨setT ⟨x, y, nx⟩ S.L, S.old, tm1, S.aw⟩ = if byS ⟨setT ⟨x, y, nx⟩ S.L, S.old, tm1, S.aw⟩ < reb then ⟨setT ⟨x, y, nx⟩ S.L, S.old, tm1, S.aw⟩ else subS ⟨setT ⟨x, y, nx⟩ S.L, S.old, tm1, S.aw⟩ (byS ⟨setT ⟨x, y, nx⟩ S.L, S.old, tm1, S.aw⟩)) := Lib.hid rfl
      obtain ⟨S1, hS1⟩ : ∃ S1 : St, S1 = ⟨setT ⟨x, y, nx⟩ S.L, S.old, tm1, S.aw⟩ := ⟨_, rfl⟩
      have e1 : setT ⟨x, y, nx⟩ S.L = S1.L := by rw [hS1]
      have e2 : tm1 = S1.tm := by rw [hS1]
      have e3 : S.aw = S1.aw := by rw [hS1]
      rw [← hS1] at oS HR hrb hbS hokC
      rw [e1, e2] at hbS
      rw [e1] at hne1
      rw [e3] at haw
      have HE1 := Lib.hid hS1
      clear hS1 e1 e2 e3 htm1
      obtain ⟨by_, hby⟩ : ∃ y, byS S1 = y := ⟨_, rfl⟩
      rw [hby] at hbS HR hrb
      clear hby hur htr
      go_wp2_with fail
      refine (sfqTags_spec oS).mono ?_
      rintro e4 w4 ⟨a, c, rfl, o4, k4⟩
      obtain ⟨ab2, rb2, m2, rem2, hm2, hold2, hur2, _, o5⟩ := SfqR.iff.1 (o4.up 1)
      have o6 : Own w4 (slc 106 3 a S1.L.length c (flat tagC S1.L) :: SfqK b reb ab2 rb2 S1 m2 rem2 :: R) := Own.swap (SfqK.iff.2 o5)
      have hS := tagsAt_slc a S1.L.length c S1.L rfl
      have hlt := leastN_lt hne1
      have hgt : S1.L[leastN S1.L]? = some (lst S1.L) := by unfold lst; rw [List.getD_eq_getElem?_getD, List.getElem?_eq_getElem hlt]; rfl
      have hl32 := hokC.ok.len
      have hlc := tagsLeast_spec (c := c) hS hokC.ok rfl o6.drew
      rw [if_neg hne1] at hlc
      have Hold2 := Lib.hid hold2
      have hkeep := o5.cell 3
      clear o5 o4
      have hat : ∀ (w : World) (R : List SP), Own w (slc 106 3 a S1.L.length c (flat tagC S1.L) :: R) → ∃ g so, a = some ⟨g, so, none⟩ ∧ w.cell? ⟨g, so + leastN S1.L * 3 + 2, none⟩ = some (.int .i64 (lst S1.L).s) := fun w R o => by
        obtain ⟨g, so, h1, _, _, h2⟩ := hS w R o _ _ hgt
        exact ⟨g, so, h1, h2⟩
      obtain ⟨g, so, hga, _⟩ := hat _ _ o6
      subst hga
      have hat2 : ∀ (w : World) (R : List SP), Own w (slc 106 3 (some ⟨g, so, none⟩) S1.L.length c (flat tagC S1.L) :: R) → w.cell? ⟨g, so + leastN S1.L * 3 + 2, none⟩ = some (.int .i64 (lst S1.L).s) := fun w R o => by
        obtain ⟨g', so', h1, h2⟩ := hat w R o
        cases h1
        exact h2
      have Hat := Lib.hid hat2
      have HBS := Lib.hid hbS
      clear hgt hS hold2 hat hat2 hbS
      generalize leastN S1.L = k at *
      generalize (lst S1.L).s = ls at *
      have htmr := hokC.tm
      have hmn : min S1.tm ls = by_ := HBS.out.symm
      have hkeep2 := Hat.out _ _ o6
      go_wp2
      go_region_held3 (fun w' => w'.cell? ⟨b, 3, none⟩ = some (.int .i64 S1.tm) ∧ w'.cell? ⟨g, so + k * 3 + 2, none⟩ = some (.int .i64 ls)) (go_keep) (first
        | (go_at_call 97; (with_reducible refine hlc.mono ?_); rintro e5 w5 ⟨rfl, o7, k7⟩; have q0 := (SfqK.iff.1 (o7.up 1)).cell 0; have q3 := (SfqK.iff.1 (o7.up 1)).cell 3; have ql := Hat.out _ _ o7))
      have o8 : Own w5 (SfqR b reb S1 :: slc 106 3 (some ⟨g, so, none⟩) S1.L.length c (flat tagC S1.L) :: R) := SfqR.iff.2 ⟨ab2, rb2, m2, rem2, hm2, Hold2.out, hur2, hokC, SfqK.iff.1 o7.swap⟩
      have K7 : Calm w w5 := K3.trans (k4.trans ⟨k7.os, k7.tape, k7.output⟩)
      clear ql q3 hkeep hkeep2 hmn hlc
      by_cases hcmp : by_ < reb
      · go_wp2
        go_ret
        have e1 : rebS reb ⟨setT ⟨x, y, nx⟩ S.L, S.old, tm1, S.aw⟩ = S1 := by rw [← HE1.out, HR.out, if_pos hcmp]
        rw [e1]
        exact ⟨rfl, o8.swap.drop, K7⟩
      · have hsub := sfqSub_spec by_ hrb.1 hrb.2.1 hrb.2.2 haw o8
        clear hrb
        go_wp2_with fail
        refine hsub.mono ?_
        rintro e6 w6 ⟨rfl, o9, k9⟩
        go_wp2
        go_ret
        have e1 : rebS reb ⟨setT ⟨x, y, nx⟩ S.L, S.old, tm1, S.aw⟩ = subS S1 by_ := by rw [← HE1.out, HR.out, if_neg (by omega)]
        rw [e1]
        exact ⟨rfl, o9.swap.drop, K7.trans k9⟩
    · rw [chargeR_err (f := x) hf (by rw [hfin]; exact her)]
      rw [hfin]
      have her' : (er != 0) = true := by simpa using her
      clear hfin hf
      go_enter Try.func78, Try.ntmps78
      go_wp2_with (go_at_call 99; refine (hfs _).mono ?_; rintro e2 w2 ⟨rfl, rfl⟩)
      go_ret
      exact ⟨rfl, o.more _, ⟨rfl, rfl, rfl⟩⟩
theorem sfqCharge_as {f len er : Int} {S' : St} (h : chargeR reb S f len = (er, S')) (haw : 0 ≤ S.aw ∧ S.aw ≤ 1152921504606846976) (o : Own w (SfqR b reb S :: R)) :
    Calls Try.prog 78 #[.pointer (some ⟨b, 0, none⟩), .int .i64 f, .int .i64 len] w (Ret (.int .i64 er) (SfqR b reb S' :: R) w) := by
  have := sfqCharge_spec f len haw o
  rw [h] at this
  exact this
end
end Go.Proofs.Ytkmlkpfabkhleaa

/- The generator of choices: each call of Next gives some number in its range, and changes its own block alone. -/
namespace Go.Proofs.Ytkmlkpfabkhleaa
open Go.RowKit
open SP

/-- A slice of integers that came in: nil, or a row of 'cap' cells of which the first 'len' are its elements. -/
def IsRow (k : IntKind) (w : World) (a : Option Addr) (len cap : Nat) (zs : List Int) : Prop :=
  (a = none ∧ len = 0 ∧ cap = 0 ∧ zs = []) ∨
  ∃ x, a = some x ∧ len ≤ cap ∧ cap ≤ maxLen ∧ zs.length = cap ∧ (∀ i, i < zs.length → w.cell? (x.add i) = some (.int k (zs.getD i 0))) ∧ ∀ n ∈ zs, (Lit.int k n).wf = true

theorem IsRow.at {k : IntKind} {w : World} {a : Option Addr} {len cap : Nat} {zs : List Int} (h : IsRow k w a len cap zs) {i : Nat} (hi : i < len) :
    ∃ sb so x, a = some ⟨sb, so, none⟩ ∧ w.cell? ⟨sb, so + i, none⟩ = some (.int k x) := by
  rcases h with ⟨_, h, _⟩ | ⟨⟨sb, so, sp⟩, rfl, h1, _, h2, hc, _⟩
  · omega
  · cases sp with
    | none =>
      have h3 := hc i (by omega)
      have e : (⟨sb, so, none⟩ : Addr).add i = ⟨sb, so + i, none⟩ := by unfold Addr.add; split <;> simp_all
      rw [e] at h3
      exact ⟨sb, so, _, rfl, h3⟩
    | some s =>
      have h3 := hc 0 (by omega)
      have e : (⟨sb, so, some s⟩ : Addr).add 0 = ⟨sb, so, some s⟩ := rfl
      rw [e] at h3
      unfold World.cell? at h3
      split at h3 <;> simp at h3

/-- The choices behind block b; at most N of them have been taken. -/
def Ch (W : World) (b N : Nat) : SP := ex fun (p : Option Addr × Nat × Nat × List Int × Int) =>
  st [pu (IsRow .i64 W p.1 p.2.1 p.2.2.1 p.2.2.2.1 ∧ 0 ≤ p.2.2.2.2 ∧ p.2.2.2.2 ≤ N), cel b 65 [.slice p.1 p.2.1 p.2.2.1, .int .i64 p.2.2.2.2]]

theorem Ch.open {W w : World} {b N : Nat} {R : List SP} (o : Own w (Ch W b N :: R)) :
    ∃ a len cap zs at_, IsRow .i64 W a len cap zs ∧ 0 ≤ at_ ∧ at_ ≤ (N : Int) ∧ Own w (cel b 65 [.slice a len cap, .int .i64 at_] :: R) := by
  obtain ⟨⟨a, len, cap, zs, at_⟩, h⟩ := Own.ex.1 o
  obtain ⟨⟨h1, h2, h3⟩, h4⟩ := Own.pu.1 (Own.st.1 h)
  exact ⟨a, len, cap, zs, at_, h1, h2, h3, h4⟩

theorem Ch.shut {W w : World} {b N : Nat} {R : List SP} {a : Option Addr} {len cap : Nat} {zs : List Int} {at_ : Int} (h1 : IsRow .i64 W a len cap zs) (h2 : 0 ≤ at_) (h3 : at_ ≤ (N : Int))
    (o : Own w (cel b 65 [.slice a len cap, .int .i64 at_] :: R)) : Own w (Ch W b N :: R) :=
  Own.ex.2 ⟨⟨a, len, cap, zs, at_⟩, Own.st.2 (Own.pu.2 ⟨⟨h1, h2, h3⟩, o⟩)⟩

def NextPost (W : World) (b N : Nat) (n : Int) (R : List SP) (w : World) (e : Ending) (w' : World) : Prop :=
  ∃ x : Int, 0 ≤ x ∧ x < n ∧ e = .returned (.int .i64 x) ∧ Own w' (Ch W b (N + 1) :: old W :: R) ∧ Calm w w'

theorem tmod_range {x n : Int} (h : 1 ≤ n) : -n < x.tmod n ∧ x.tmod n < n := by
  have h1 := Int.natAbs_tmod x n
  have h2 := Nat.mod_lt x.natAbs (show 0 < n.natAbs by omega)
  omega

set_option maxHeartbeats 800000 in
theorem next_spec (W : World) (b N : Nat) (n : Int) (R : List SP) (w : World) (hn : 1 ≤ n) (hn2 : n ≤ 4611686018427387904) (hN : (N : Int) ≤ 1000000000000)
    (o : Own w (Ch W b N :: old W :: R)) :
    Calls Try.prog 10 #[.pointer (some ⟨b, 0, none⟩), .int .i64 n] w (NextPost W b N n R w) := by
  obtain ⟨a, len, cap, zs, at_, hrow, h0, h1, o1⟩ := Ch.open o
  have c0 := o1.cell 0
  have c1 := o1.cell 1
  have hf := o1.frozen
  have hd0 : n ≠ 0 := by omega
  have fin : ∀ (m : Nat) (x : Int), 0 ≤ x → x < n → NextPost W b N n R w (.returned (.int .i64 x)) ((w.drewN m).setCell ⟨b, 1, none⟩ (.int .i64 (at_ + 1))) := by
    intro m x hx1 hx2
    exact ⟨x, hx1, hx2, rfl, Ch.shut hrow (by omega) (by omega) ((o1.drewN m).setCell 1 _), ⟨rfl, rfl, rfl⟩⟩
  have hl : (len : Int) ≤ 9223372036854775807 := by
    rcases hrow with ⟨_, rfl, _⟩ | ⟨_, _, h, h', _⟩
    · omega
    · unfold maxLen at h'; omega
  have hlc : len ≤ cap := by
    rcases hrow with ⟨_, rfl, rfl, _⟩ | ⟨_, _, h, h', _⟩ <;> omega
  by_cases hlt : at_ < (len : Int)
  · obtain ⟨sb, so, x, rfl, hx⟩ := hrow.at (i := at_.toNat) (by omega)
    have hx' := o1.swap.swap.drop
    have hc := o1.drop.old_cell hx
    have hr := tmod_range (x := x) hn
    go_enter Try.func10, Try.ntmps10
    go_wp2
    go_quiet (fail)
    go_wp2
    go_quiet (fail)
    go_wp2
    all_goals go_ret
    · exact fin _ _ (by omega) (by omega)
    · exact fin _ _ (by omega) (by omega)
  · have hr1 := Int.emod_nonneg (7 * at_ + 3) hd0
    have hr2 := Int.emod_lt_of_pos (7 * at_ + 3) (show 0 < n by omega)
    go_enter Try.func10, Try.ntmps10
    go_wp2
    go_quiet (fail)
    go_wp2
    go_ret
    exact fin _ _ hr1 hr2

set_option maxHeartbeats 800000 in
theorem genNew_spec {W w : World} {R : List SP} (a : Option Addr) (len cap : Nat) (zs : List Int) (hz : IsRow .i64 W a len cap zs) (o : Own w R) :
    Calls Try.prog 8 #[.slice a len cap] w fun e w' => ∃ b, e = .returned (.pointer (some ⟨b, 0, none⟩)) ∧ Own w' (Ch W b 0 :: R) ∧ Calm w w' := by
  go_enter Try.func8, Try.ntmps8
  go_wp2
  go_ret
  exact ⟨_, rfl, Ch.shut hz (Int.le_refl _) (by simp) (o.alloc (.cells #[.slice a len cap, .int .i64 0] 65)), ⟨rfl, rfl, rfl⟩⟩

end Go.Proofs.Ytkmlkpfabkhleaa

/- Lengths that are drawn; Eligible and Serve where they give no error. -/
namespace Go.Proofs.Ytkmlkpfabkhleaa
open Go.RowKit
open SP
section
variable {W w w' : World} {R : List SP} {b : Nat}
def lenL : List Int := [100, 1, 60, 1500, 4096, 100, 700]
def LenPost (W : World) (b N : Nat) (R : List SP) (w : World) (e : Ending) (w' : World) : Prop :=
  ∃ x : Int, 1 ≤ x ∧ x ≤ 4096 ∧ e = .returned (.int .i64 x) ∧ Own w' (Ch W b (N + 1) :: old W :: R) ∧ Calm w w'

set_option maxHeartbeats 800000 in
theorem length_spec (N : Nat) (hN : (N : Int) ≤ 900000000000) (o : Own w (Ch W b N :: old W :: R)) :
    Calls Try.prog 42 #[.pointer (some ⟨b, 0, none⟩)] w (LenPost W b N R w) := by
  have o1 : Own (w.alloc (.cells (lenL.map (Value.int .i64)).toArray 3)) (cel w.heap.size 3 (lenL.map (Value.int .i64)) :: Ch W b N :: old W :: R) := o.alloc _
  have o2 := (o1.up 2).up 2
  go_enter Try.func42, Try.ntmps42
  go_wp2_with fail
  refine (next_spec W b N 7 _ _ (by omega) (by omega) (by omega) o2).mono ?_
  rintro e2 w2 ⟨x, hx0, hx1, rfl, o3, k3⟩
  obtain ⟨j, rfl⟩ : ∃ j : Nat, x = (j : Int) := ⟨x.toNat, by omega⟩
  have hj : j < lenL.length := by show j < 7; omega
  have c := Own.cell (v := .int .i64 lenL[j]) (o3.up 2) j (by rw [List.getElem?_map, List.getElem?_eq_getElem hj]; rfl)
  have hr : 1 ≤ lenL[j] ∧ lenL[j] ≤ 4096 := by
    have : ∀ y ∈ lenL, 1 ≤ y ∧ y ≤ 4096 := by decide
    exact this _ (List.getElem_mem hj)
  generalize lenL[j] = y at *
  go_wp2
  go_ret
  exact ⟨y, hr.1, hr.2, rfl, (o3.up 2).drop, ⟨k3.os, k3.tape, k3.output⟩⟩

/-- Eligible, called with a list that stands in the text. -/
theorem eligible_ok {reb tm : Int} {el tg : List (Int × Int)} (a : Option Addr) (n c : Nat) (l : List (Int × Int)) (hn : n = l.length) (hn2 : n ≤ 1000) (hb : eligBad (-1) l = false)
    (o : Own w (slc 134 2 a n c (flat part l) :: OrderR b reb el tg tm :: R)) :
    Calls Try.prog 34 #[.pointer (some ⟨b, 0, none⟩), .slice a n c] w
      (Ret (.int .i64 0) (slc 134 2 a n c (flat part l) :: OrderR b reb (eligEl l []) (eligTg el tm l tg) tm :: R) w) :=
  (eligible_spec a n c l hn hn2 o).mono fun e w' h => by unfold EligRes at h; rw [hb] at h; exact h

theorem slc_new {e : TypeId} {size n : Nat} {vs : List Value} (o : Own w (cel b e vs :: R)) (h : vs.length = n * size) (hn : n ≤ 1000) : Own w (slc e size (some ⟨b, 0, none⟩) n n vs :: R) :=
  Own.slc.2 (.inr ⟨b, [], rfl, Nat.le_refl _, by unfold maxLen; omega, h, by simp, by rw [List.append_nil]; exact o⟩)

theorem serve_low {reb tm : Int} {el tg : List (Int × Int)} (f len : Int) (tg1 : List (Int × Int)) (tm1 : Int) (hk : KeyOk el) (hn : el.length ≤ 1000) (hu : Uniq tg) (hv : ∀ x ∈ tg, 0 ≤ x.2 ∧ x.2 ≤ 1099511627776) (ht : 0 ≤ tm ∧ tm ≤ 1099511627776)
    (h0 : servE el tg f len = 0) (h1 : servTg el tg f len = tg1) (h2 : servTm tg tm f = tm1) (h3 : servBy el tg tm f len < reb) (o : Own w (OrderR b reb el tg tm :: R)) :
    Calls Try.prog 79 #[.pointer (some ⟨b, 0, none⟩), .int .i64 f, .int .i64 len] w (Ret (.int .i64 0) (OrderR b reb el tg1 tm1 :: R) w) :=
  (serve_spec f len hk hn hu hv ht o).mono fun e w' h => by
    unfold ServPost at h
    rw [if_neg (by rw [h0]; simp), if_pos h3, h1, h2] at h
    exact h

end
end Go.Proofs.Ytkmlkpfabkhleaa

/- The state without flows; weights that are drawn. -/
namespace Go.Proofs.Ytkmlkpfabkhleaa
open Go.RowKit
open SP
section
variable {W w w' : World} {R : List SP} {b : Nat} {reb : Int} {S : St}
theorem Ch.upto {W w : World} {b N M : Nat} {R : List SP} (o : Own w (Ch W b N :: R)) (h : N ≤ M := by omega) : Own w (Ch W b M :: R) := by
  obtain ⟨a, len, cap, zs, at_, h1, h2, h3, h4⟩ := Ch.open o
  exact Ch.shut h1 h2 (by omega) h4

def wtL : List Int := [1, 2, 1, 3, 4, 16, 7, 1, 5]
def WtPost (W : World) (b N : Nat) (R : List SP) (w : World) (e : Ending) (w' : World) : Prop :=
  ∃ x : Int, 1 ≤ x ∧ x ≤ 16 ∧ e = .returned (.int .i64 x) ∧ Own w' (Ch W b (N + 1) :: old W :: R) ∧ Calm w w'

set_option maxHeartbeats 800000 in
theorem weight_spec (N : Nat) (hN : (N : Int) ≤ 900000000000) (o : Own w (Ch W b N :: old W :: R)) :
    Calls Try.prog 19 #[.pointer (some ⟨b, 0, none⟩)] w (WtPost W b N R w) := by
  have o1 : Own (w.alloc (.cells (wtL.map (Value.int .i64)).toArray 3)) (cel w.heap.size 3 (wtL.map (Value.int .i64)) :: Ch W b N :: old W :: R) := o.alloc _
  have o2 := (o1.up 2).up 2
  go_enter Try.func19, Try.ntmps19
  go_wp2_with fail
  refine (next_spec W b N 9 _ _ (by omega) (by omega) (by omega) o2).mono ?_
  rintro e2 w2 ⟨x, hx0, hx1, rfl, o3, k3⟩
  obtain ⟨j, rfl⟩ : ∃ j : Nat, x = (j : Int) := ⟨x.toNat, by omega⟩
  have hj : j < wtL.length := by show j < 9; omega
  have c := Own.cell (v := .int .i64 wtL[j]) (o3.up 2) j (by rw [List.getElem?_map, List.getElem?_eq_getElem hj]; rfl)
  have hr : 1 ≤ wtL[j] ∧ wtL[j] ≤ 16 := by
    have : ∀ y ∈ wtL, 1 ≤ y ∧ y ≤ 16 := by decide
    exact this _ (List.getElem_mem hj)
  generalize wtL[j] = y at *
  go_wp2
  go_ret
  exact ⟨y, hr.1, hr.2, rfl, (o3.up 2).drop, ⟨k3.os, k3.tape, k3.output⟩⟩

def St0 : St := ⟨[], fun _ => 0, 0, 0⟩
end
end Go.Proofs.Ytkmlkpfabkhleaa

/- What the walks of chapter 13 share: the sum of what was subtracted. -/
namespace Go.Proofs.Ytkmlkpfabkhleaa
open Go.RowKit
open SP
section
variable {W w w' : World} {R : List SP} {b : Nat} {reb : Int} {S : St}

theorem joinR_aw (S : St) (f w : Int) : (joinR S f w).2.aw = S.aw := by unfold joinR; split <;> rfl
theorem leaveR_aw (S : St) (f : Int) : (leaveR S f).2.aw = S.aw := by
  unfold leaveR leaveS; split
  · rfl
  · dsimp only; split <;> rfl
theorem chargeR_aw (r : Int) {S : St} (hok : StOk S) (f len : Int) : S.aw ≤ (chargeR r S f len).2.aw ∧ (chargeR r S f len).2.aw ≤ S.aw + 1099511627776 := by
  unfold chargeR
  split
  · simp only; omega
  · rename_i t ht
    split
    · simp only; omega
    · rename_i he
      have h1 := finF_ok (show (finF t.s len t.w).2 = 0 by omega)
      obtain ⟨hm, _⟩ := fget_some ht
      have hne : S.L ≠ [] := List.ne_nil_of_mem hm
      have hcr : 0 ≤ cst len t.w := by
        obtain ⟨_, h2, _, _⟩ := h1
        unfold badLW at h2
        have := cst_range (len := len) (wt := t.w) (by omega) (by omega) (by omega) (by omega)
        omega
      have h3 := hok.ch hm (nx := (finF t.s len t.w).1) (by omega)
      simp only
      unfold rebS
      split
      · show S.aw ≤ S.aw ∧ S.aw ≤ _; omega
      · have h4 := byS_rng h3 (setT_ne hne)
        have h5 := h3.tm
        show S.aw ≤ S.aw + _ ∧ S.aw + _ ≤ _
        omega

end
end Go.Proofs.Ytkmlkpfabkhleaa

/- Heads of flows: where a flow stands among them, and whether they fit. -/
namespace Go.Proofs.Ytkmlkpfabkhleaa
open Go.RowKit
open SP
section
variable {W w w' : World} {R : List SP}

def headC (h : Head) : List Value := [.int .i64 h.f, .int .i64 h.len, .bool h.good]
def headV (h : Head) : Value := .agg #[.int .i64 h.f, .int .i64 h.len, .bool h.good]
theorem headC_len (h : Head) : (headC h).length = 3 := rfl
/-- The heads that a slice at a holds, read behind Sp. -/
def HeadsAt (Sp : SP) (a : Option Addr) (H : List Head) : Prop := ∀ (w : World) (R : List SP), Own w (Sp :: R) → ∀ (i : Nat) (h : Head), H[i]? = some h →
  ∃ g, a = some ⟨g, 0, none⟩ ∧ w.cell? ⟨g, i * 3, none⟩ = some (.int .i64 h.f) ∧ w.cell? ⟨g, i * 3 + 1, none⟩ = some (.int .i64 h.len) ∧ w.cell? ⟨g, i * 3 + 2, none⟩ = some (.bool h.good)
theorem headsAt_slc {T : TypeId} (a : Option Addr) (n c : Nat) (H : List Head) (hn : n = H.length) : HeadsAt (slc T 3 a n c (flat headC H)) a H := by
  intro w R o i t ht
  have := (List.getElem?_eq_some_iff.1 ht).1
  obtain ⟨g, h, hc, hf, hg⟩ := o.slc_cell (by omega)
  refine ⟨g, h, ?_, ?_, ?_⟩
  · exact hc (i * 3 + 0) _ (flat_get headC_len H i 0 t ht (by omega))
  · exact hc (i * 3 + 1) _ (flat_get headC_len H i 1 t ht (by omega))
  · exact hc (i * 3 + 2) _ (flat_get headC_len H i 2 t ht (by omega))

/-- The place of a flow's head, or -1. -/
def idxH (f : Int) : Nat → List Head → Int
  | _, [] => -1
  | i, h :: l => if h.f = f then (i : Int) else idxH f (i + 1) l
theorem idxH_step {f : Int} {H : List Head} {i : Nat} {h : Head} (e : H[i]? = some h) : idxH f i (H.drop i) = if h.f = f then (i : Int) else idxH f (i + 1) (H.drop (i + 1)) := by
  obtain ⟨h1, h2⟩ := List.getElem?_eq_some_iff.1 e
  rw [List.drop_eq_getElem_cons h1, h2]; rfl

set_option maxHeartbeats 800000 in
set_option maxRecDepth 100000 in
theorem index1_spec (h : Head) {f : Int} {p : Nat} (o : Own w (cel p 3 [.int .i64 f] :: R)) :
    Calls Try.prog 77 #[headV h, .pointer (some ⟨p, 0, none⟩)] w (Ret (.bool (h.f == f)) (cel p 3 [.int .i64 f] :: R) w) := by
  unfold headV
  have c := o.cell 0
  have hl := o.celLt
  go_enter Try.func77, Try.ntmps77
  go_wp2
  go_ret
  exact ⟨rfl, (o.alloc _).drop, ⟨rfl, rfl, rfl⟩⟩

def CqIxRel (Sp : SP) (p : Nat) (f : Int) (H : List Head) (R : List SP) (w : World) (v : Value) (wr : World) : Prop :=
  ∃ i : Nat, v = .int .i64 (i : Int) ∧ i ≤ H.length ∧ idxH f 0 H = idxH f i (H.drop i) ∧ Own wr (cel p 3 [.int .i64 f] :: Sp :: R) ∧ Calm w wr
set_option maxHeartbeats 3200000 in
set_option maxRecDepth 100000 in
theorem indexFunc_spec {Sp : SP} {a : Option Addr} {n c p : Nat} {f : Int} {H : List Head} (h1 : HeadsAt Sp a H) (hn : n = H.length) (hl : n ≤ 1000) (o : Own w (cel p 3 [.int .i64 f] :: Sp :: R)) :
    Calls Try.prog 76 #[.slice a n c, .func (.func 77) #[] #[.pointer (some ⟨p, 0, none⟩)]] w (Ret (.int .i64 (idxH f 0 H)) (cel p 3 [.int .i64 f] :: Sp :: R) w) := by
  obtain ⟨X, hX⟩ : ∃ X, idxH f 0 H = X := ⟨_, rfl⟩
  have hT : CqIxRel Sp p f H R w (.int .i64 0) w := ⟨0, rfl, by omega, rfl, o, Calm.refl w⟩
  have Hn := Lib.hid hn
  have HX := Lib.hid hX
  rw [hX]
  clear hn hX
  go_enter Try.func76, Try.ntmps76
  go_wp2
  go_loopw [8] (fun v wr => CqIxRel Sp p f H R w v wr) (fun v _ => n - (Lib.intOf v).toNat)
  case atStart => exact hT
  case round =>
    clear hT
    obtain ⟨i, rfl, hi, hid, oR, kR⟩ := hrel
    have HI := Lib.hid hid
    clear hid
    by_cases hlt : i < n
    · obtain ⟨h, hh⟩ : ∃ h, H[i]? = some h := ⟨_, List.getElem?_eq_getElem (by have := Hn.out; omega)⟩
      obtain ⟨g, rfl, d0, d1, d2⟩ := h1 _ _ (oR.up 1) i _ hh
      have HST := Lib.hid (idxH_step (f := f) hh)
      clear hh
      have hc := index1_spec h oR
      by_cases he : h.f = f
      · have hb : (h.f == f) = true := by simpa using he
        rw [hb] at hc
        have hv : X = (i : Int) := by rw [← HX.out, HI.out, HST.out, if_pos he]
        have HV := Lib.hid hv
        clear he hv
        go_wp2_with fail
        refine hc.mono ?_
        rintro e1 w1 ⟨rfl, o1, k1⟩
        clear hc
        go_wp2
        go_ret
        exact ⟨by rw [HV.out]; rfl, o1, Calm.trans kR k1⟩
      · have hb : (h.f == f) = false := by simpa using he
        rw [hb] at hc
        have hv : idxH f 0 H = idxH f (i + 1) (H.drop (i + 1)) := by rw [HI.out, HST.out, if_neg he]
        have HV := Lib.hid hv
        clear he hv
        go_wp2_with fail
        refine hc.mono ?_
        rintro e1 w1 ⟨rfl, o1, k1⟩
        clear hc
        go_wp2
        go_roundw
        case rel => exact ⟨i + 1, by go_num, by have := Hn.out; omega, HV.out, o1, Calm.trans kR k1⟩
        case measure => simp [Lib.intOf]; omega
    · have hn := Hn.out
      have hv : X = -1 := by
        rw [← HX.out, HI.out, List.drop_eq_nil_of_le (by omega)]; rfl
      have HV := Lib.hid hv
      clear hv hn
      go_wp2
      go_ret
      exact ⟨by rw [HV.out]; rfl, oR, kR⟩

set_option maxHeartbeats 1600000 in
set_option maxRecDepth 100000 in
theorem cqIndex_spec {Sp : SP} {a : Option Addr} {n c : Nat} {f : Int} {H : List Head} (h1 : HeadsAt Sp a H) (hn : n = H.length) (hl : n ≤ 1000) (o : Own w (Sp :: R)) :
    Calls Try.prog 36 #[.slice a n c, .int .i64 f] w (Ret (.int .i64 (idxH f 0 H)) (Sp :: R) w) := by
  have oA : Own (w.alloc (.cells #[.int .i64 f] 3)) (cel w.heap.size 3 [.int .i64 f] :: Sp :: R) := o.alloc _
  have hi := indexFunc_spec (c := c) h1 hn hl oA
  generalize idxH f 0 H = X at *
  have HI := Lib.hid hi
  clear h1 hn hl hi o
  go_enter Try.func36, Try.ntmps36
  go_wp2_with fail
  refine HI.out.mono ?_
  rintro e1 w1 ⟨rfl, o1, k1⟩
  go_wp2
  go_ret
  exact ⟨rfl, o1.drop, ⟨k1.os, k1.tape, k1.output⟩⟩
end
end Go.Proofs.Ytkmlkpfabkhleaa

/- Whether heads fit the flows. -/
namespace Go.Proofs.Ytkmlkpfabkhleaa
open Go.RowKit
open SP
section
variable {W w w' : World} {R : List SP}

def fit1 (h : Head) (t : Tg) : Bool := h.f == t.f && (decide (1 ≤ h.len) && decide (h.len ≤ 4096))
def fitsL : List Head → List Tg → Bool
  | [], [] => true
  | h :: H, t :: L => fit1 h t && fitsL H L
  | _, _ => false
theorem fitsL_len : ∀ {H : List Head} {L : List Tg}, H.length ≠ L.length → fitsL H L = false
  | [], [], h => absurd rfl h
  | [], _ :: _, _ => rfl
  | _ :: _, [], _ => rfl
  | h :: H, t :: L, hl => by
    have := fitsL_len (H := H) (L := L) (by simpa using hl)
    simp [fitsL, this]
theorem fitsL_eq : ∀ (H : List Head) (L : List Tg), fitsL H L = fitsH L H
  | [], [] => by simp [fitsL, fitsH]
  | [], _ :: _ => by simp [fitsL, fitsH]
  | _ :: _, [] => by simp [fitsL, fitsH]
  | h :: H, t :: L => by
    have := fitsL_eq H L
    simp only [fitsL, this, fitsH, fit1, List.map_cons, List.all_cons, List.cons.injEq]
    by_cases h1 : h.f = t.f <;> by_cases h2 : H.map (·.f) = L.map (·.f) <;> by_cases h3 : 1 ≤ h.len <;> by_cases h4 : h.len ≤ 4096 <;> simp [h1, h2, h3, h4]
theorem fitsL_step {H : List Head} {L : List Tg} {i : Nat} {h : Head} {t : Tg} (e1 : H[i]? = some h) (e2 : L[i]? = some t) : fitsL (H.drop i) (L.drop i) = (fit1 h t && fitsL (H.drop (i + 1)) (L.drop (i + 1))) := by
  obtain ⟨h1, h2⟩ := List.getElem?_eq_some_iff.1 e1
  obtain ⟨g1, g2⟩ := List.getElem?_eq_some_iff.1 e2
  rw [List.drop_eq_getElem_cons h1, h2, List.drop_eq_getElem_cons g1, g2]; rfl

set_option maxHeartbeats 800000 in
set_option maxRecDepth 100000 in
theorem fits1_spec (h : Head) (t : Tg) (o : Own w R) :
    Calls Try.prog 68 #[headV h, tagV t] w (Ret (.bool (fit1 h t)) R w) := by
  unfold headV tagV
  by_cases h1 : h.f = t.f
  · by_cases h2 : 1 ≤ h.len
    · by_cases h3 : h.len ≤ 4096
      · have e : fit1 h t = true := by simp [fit1, h1, h2, h3]
        rw [e]; clear e
        go_enter Try.func68, Try.ntmps68
        go_wp2
        go_ret
        exact ⟨rfl, ((o.alloc _).drop.alloc _).drop, ⟨rfl, rfl, rfl⟩⟩
      · have e : fit1 h t = false := by simp [fit1, h3]
        rw [e]; clear e
        go_enter Try.func68, Try.ntmps68
        go_wp2
        go_ret
        exact ⟨rfl, ((o.alloc _).drop.alloc _).drop, ⟨rfl, rfl, rfl⟩⟩
    · have e : fit1 h t = false := by simp [fit1, h2]
      rw [e]; clear e
      go_enter Try.func68, Try.ntmps68
      go_wp2
      go_ret
      exact ⟨rfl, ((o.alloc _).drop.alloc _).drop, ⟨rfl, rfl, rfl⟩⟩
  · have e : fit1 h t = false := by simp [fit1, h1]
    have hb : (h.f == t.f) = false := by simpa using h1
    rw [e]; clear e
    go_enter Try.func68, Try.ntmps68
    go_wp2
    go_ret
    exact ⟨rfl, ((o.alloc _).drop.alloc _).drop, ⟨rfl, rfl, rfl⟩⟩

def FitRel (S1 S2 : SP) (H : List Head) (L : List Tg) (R : List SP) (w : World) (v : Value) (wr : World) : Prop :=
  ∃ i : Nat, v = .int .i64 (i : Int) ∧ i ≤ H.length ∧ fitsL H L = fitsL (H.drop i) (L.drop i) ∧ Own wr (S1 :: S2 :: R) ∧ Calm w wr
set_option maxHeartbeats 3200000 in
set_option maxRecDepth 100000 in
theorem equalFunc_spec {S1 S2 : SP} {a a' : Option Addr} {n c n' c' : Nat} {H : List Head} {L : List Tg} (h1 : HeadsAt S1 a H) (h2 : TagsAt S2 a' L) (hn : n = H.length) (hn' : n' = L.length) (hl : n ≤ 1000) (o : Own w (S1 :: S2 :: R)) :
    Calls Try.prog 52 #[.slice a n c, .slice a' n' c', .func (.func 68) #[] #[]] w (Ret (.bool (fitsL H L)) (S1 :: S2 :: R) w) := by
  obtain ⟨X, hX⟩ : ∃ X, fitsL H L = X := ⟨_, rfl⟩
  rw [hX]
  by_cases hne : n = n'
  · subst hne
    have hT : FitRel S1 S2 H L R w (.int .i64 0) w := ⟨0, rfl, by omega, rfl, o, Calm.refl w⟩
    have Hn := Lib.hid hn
    have Hn' := Lib.hid hn'
    have HX := Lib.hid hX
    clear hn hX hn'
    go_enter Try.func52, Try.ntmps52
    go_wp2
    go_loopw [17] (fun v wr => FitRel S1 S2 H L R w v wr) (fun v _ => n - (Lib.intOf v).toNat)
    case atStart => exact hT
    case round =>
      clear hT
      obtain ⟨i, rfl, hi, hid, oR, kR⟩ := hrel
      have HI := Lib.hid hid
      clear hid
      by_cases hlt : i < n
      · obtain ⟨h, hh⟩ : ∃ h, H[i]? = some h := ⟨_, List.getElem?_eq_getElem (by have := Hn.out; omega)⟩
        obtain ⟨t, ht⟩ : ∃ t, L[i]? = some t := ⟨_, List.getElem?_eq_getElem (by have := Hn'.out; omega)⟩
        obtain ⟨g, rfl, d0, d1, d2⟩ := h1 _ _ oR i _ hh
        obtain ⟨g', so, rfl, e0, e1, e2⟩ := h2 _ _ (oR.up 1) i _ ht
        have HST := Lib.hid (fitsL_step hh ht)
        have oA := (oR.alloc (.cells #[.int .i64 h.f, .int .i64 h.len, .bool h.good] 41)).drop
        obtain ⟨g2, so2, hq, f0, f1, f2⟩ := h2 _ _ (oA.up 1) i _ ht
        cases hq
        have oB := ((oR.alloc (.cells #[.int .i64 h.f, .int .i64 h.len, .bool h.good] 41)).drop.alloc (.cells #[.int .i64 t.f, .int .i64 t.w, .int .i64 t.s] 106)).drop
        have hc := fits1_spec h t oB
        clear hh ht
        by_cases he : fit1 h t = true
        · rw [he] at hc
          have hv : fitsL H L = fitsL (H.drop (i + 1)) (L.drop (i + 1)) := by rw [HI.out, HST.out, he]; rfl
          have HV := Lib.hid hv
          clear he hv
          go_wp2_with fail
          refine hc.mono ?_
          rintro e1 w1 ⟨rfl, o1, k1⟩
          clear hc
          go_wp2
          go_roundw
          case rel => exact ⟨i + 1, by go_num, by have := Hn.out; omega, HV.out, o1, Calm.trans kR ⟨k1.os, k1.tape, k1.output⟩⟩
          case measure => simp [Lib.intOf]; omega
        · rw [Bool.not_eq_true] at he
          rw [he] at hc
          have hv : X = false := by rw [← HX.out, HI.out, HST.out, he]; rfl
          have HV := Lib.hid hv
          clear he hv
          go_wp2_with fail
          refine hc.mono ?_
          rintro e1 w1 ⟨rfl, o1, k1⟩
          clear hc
          go_wp2
          go_ret
          exact ⟨by rw [HV.out]; rfl, o1, Calm.trans kR ⟨k1.os, k1.tape, k1.output⟩⟩
      · have hn := Hn.out
        have hn' := Hn'.out
        have hv : X = true := by
          rw [← HX.out, HI.out, List.drop_eq_nil_of_le (by omega), List.drop_eq_nil_of_le (by omega)]; rfl
        have HV := Lib.hid hv
        clear hv hn hn'
        go_wp2
        go_ret
        exact ⟨by rw [HV.out]; rfl, oR, kR⟩
  · have hv : X = false := by rw [← hX]; exact fitsL_len (by omega)
    have HV := Lib.hid hv
    clear hv hX hn hn'
    go_enter Try.func52, Try.ntmps52
    go_wp2
    go_ret
    exact ⟨by rw [HV.out]; rfl, o, Calm.refl w⟩
end
end Go.Proofs.Ytkmlkpfabkhleaa

/- The comparison of two products. -/
namespace Go.Proofs.Ytkmlkpfabkhleaa
open Go.RowKit
open SP
section
variable {W w w' : World} {R : List SP}

def cmpZ (x y : Int) : Int := if x < y then -1 else if y < x then 1 else 0
def orZ (x y : Int) : Int := if x ≠ 0 then x else y

theorem nanU_spec (x : Int) (w : World) : Calls Try.prog 131 #[.int .u64 x] w (fun e w' => e = .returned (.bool false) ∧ w = w') := by
  go_enter Try.func131, Try.ntmps131
  go_wp2
  go_ret
  simp
set_option maxHeartbeats 800000 in
set_option maxRecDepth 100000 in
theorem cmpU_spec (x y : Int) (w : World) : Calls Try.prog 116 #[.int .u64 x, .int .u64 y] w (IsRet (.int .i64 (cmpZ x y)) w) := by
  by_cases h1 : x < y
  · have e : cmpZ x y = -1 := if_pos h1
    rw [e]; clear e
    go_enter Try.func116, Try.ntmps116
    go_wp2_with (go_at_call 131; refine (nanU_spec _ _).mono ?_; rintro e w' ⟨rfl, rfl⟩)
    go_ret
    exact ⟨rfl, rfl⟩
  · by_cases h2 : y < x
    · have e : cmpZ x y = 1 := by unfold cmpZ; rw [if_neg h1, if_pos h2]
      rw [e]; clear e
      go_enter Try.func116, Try.ntmps116
      go_wp2_with (go_at_call 131; refine (nanU_spec _ _).mono ?_; rintro e w' ⟨rfl, rfl⟩)
      go_ret
      exact ⟨rfl, rfl⟩
    · have e : cmpZ x y = 0 := by unfold cmpZ; rw [if_neg h1, if_neg h2]
      rw [e]; clear e
      go_enter Try.func116, Try.ntmps116
      go_wp2_with (go_at_call 131; refine (nanU_spec _ _).mono ?_; rintro e w' ⟨rfl, rfl⟩)
      go_ret
      exact ⟨rfl, rfl⟩

def zOf : Value → Int
  | .int _ x => x
  | _ => 0
def OrRel (x y : Int) (i : Value) : Prop := i = .int .i64 0 ∨ (i = .int .i64 1 ∧ x = 0) ∨ (i = .int .i64 2 ∧ x = 0 ∧ y = 0)
set_option maxHeartbeats 800000 in
set_option maxRecDepth 100000 in
theorem or_spec (g : Nat) (x y : Int) (w : World) (h0 : w.cell? ⟨g, 0, none⟩ = some (.int .i64 x)) (h1 : w.cell? ⟨g, 1, none⟩ = some (.int .i64 y)) :
    Calls Try.prog 89 #[.slice (some ⟨g, 0, none⟩) 2 2] w (IsRet (.int .i64 (orZ x y)) w) := by
  go_enter Try.func89, Try.ntmps89
  go_wp2
  go_loop [8] (fun i => OrRel x y i) (fun i => 2 - (zOf i).toNat)
  case atStart => exact .inl rfl
  case round =>
    rcases hrel with rfl | ⟨rfl, rfl⟩ | ⟨rfl, rfl, rfl⟩
    · by_cases hx : x = 0
      · subst hx
        go_wp2
        go_round
        case rel => exact .inr (.inl ⟨rfl, rfl⟩)
        case measure => simp [zOf]
      · have hb : (x == 0) = false := by simpa using hx
        have hb' : (x != 0) = true := by simpa using hx
        go_wp2
        go_ret
        exact ⟨by unfold orZ; rw [if_pos hx]; rfl, rfl⟩
    · by_cases hx : y = 0
      · subst hx
        go_wp2
        go_round
        case rel => exact .inr (.inr ⟨rfl, rfl, rfl⟩)
        case measure => simp [zOf]
      · have hb : (y == 0) = false := by simpa using hx
        have hb' : (y != 0) = true := by simpa using hx
        go_wp2
        go_ret
        exact ⟨rfl, rfl⟩
    · go_wp2
      go_ret
      exact ⟨rfl, rfl⟩

set_option maxHeartbeats 800000 in
set_option maxRecDepth 100000 in
theorem wcomp_spec (x y : Int) (o : Own w R) :
    Calls Try.prog 101 #[.agg #[.int .u64 0, .int .u64 x], .agg #[.int .u64 0, .int .u64 y]] w (Ret (.int .i64 (cmpZ x y)) R w) := by
  go_enter Try.func101, Try.ntmps101
  go_wp2
  refine wp_region_tail 9 (by kernel_rfl) (by kernel_rfl) ?_
  simp only [List.take_succ_cons, List.take_zero, List.drop_succ_cons, List.drop_zero]
  repeat still_step
  still_call (IsRet.still (cmpU_spec _ _ _))
  repeat still_step
  refine wpStill_nil ?_
  go_wp2_with (go_at_call 116; refine (cmpU_spec _ _ _).mono ?_; rintro e w' ⟨rfl, rfl⟩)
  refine (or_spec (w.heap.size + 1 + 1) (cmpZ 0 0) (cmpZ x y) _ ?_ ?_).mono ?_
  · go_simp
  · go_simp
  rintro e w' ⟨rfl, rfl⟩
  go_wp2
  go_ret
  refine ⟨?_, ?_, ?_⟩
  · rfl
  · have := (((o.alloc (.cells #[.int .u64 0, .int .u64 x] 167)).drop.alloc (.cells #[.int .u64 0, .int .u64 y] 167)).drop.alloc (.cells #[.int .i64 (cmpZ 0 0), .int .i64 (cmpZ x y)] 3)).drop
    exact this
  · exact ⟨rfl, rfl, rfl⟩

theorem cross_spec (a b c d : Nat) (ha : a < 18446744073709551616) (hb : b < 18446744073709551616) (hc : c < 18446744073709551616) (hd : d < 18446744073709551616) (h1 : a * b < 9223372036854775808) (h2 : c * d < 9223372036854775808) (o : Own w R) :
    Calls Try.prog 80 #[.int .u64 (a : Int), .int .u64 (b : Int), .int .u64 (c : Int), .int .u64 (d : Int)] w (Ret (.int .i64 (cmpZ ((a * b : Nat) : Int) ((c * d : Nat) : Int))) R w) := by
  go_enter Try.func80, Try.ntmps80
  go_wp2_with fail
  refine (wideMul_spec a b ha hb h1 o).mono ?_
  rintro e1 w1 ⟨rfl, o1, k1⟩
  go_wp2_with fail
  refine (wideMul_spec c d hc hd h2 o1).mono ?_
  rintro e2 w2 ⟨rfl, o2, k2⟩
  go_wp2_with fail
  refine (wcomp_spec _ _ o2).mono ?_
  rintro e3 w3 ⟨rfl, o3, k3⟩
  go_wp2
  go_ret
  exact ⟨rfl, o3, Calm.trans k1 (Calm.trans k2 k3)⟩
end
end Go.Proofs.Ytkmlkpfabkhleaa

/- maps.Clone at int keys, and the copy of an order of comp. -/
namespace Go.Proofs.Ytkmlkpfabkhleaa
open Go.RowKit
open SP
section
variable {α : Type} {f : α → Value} {W w w' : World} {R : List SP} {b mb : Nat} {m : List (Int × α)} {reb tm : Int} {el tg : List (Int × Int)}

def ClonePost (f : α → Value) (mb : Nat) (m : List (Int × α)) (R : List SP) (w : World) (e : Ending) (w' : World) : Prop :=
  e = .returned (.map (some w.heap.size)) ∧ Own w' (mpI f w.heap.size m :: mpI f mb m :: R) ∧ Calm w w'

set_option maxHeartbeats 1600000 in
set_option maxRecDepth 100000 in
theorem cloneII_spec (o : Own w (mpI f mb m :: R)) : Calls Try.prog 71 #[.map (some mb)] w (ClonePost f mb m R w) := by
  obtain ⟨es, clock, h1, h2, h3, o1⟩ := Own.mpI.1 o
  have hb := o1.blk
  have hq := fun w => run_eql_map_nil_sl (P := Try.prog) w 108 _ _ (some mb) Try.underlying108
  have hfin : Own (w.alloc (.map es clock)) (mpI f w.heap.size m :: mpI f mb m :: R) := Own.mpI.2 ⟨es, clock, h1, h2, h3, o.alloc _⟩
  go_enter Try.func71, Try.ntmps71
  go_wp2
  rw [run_callFunc_extern Try.func95 (by kernel_rfl) (by kernel_rfl) (by kernel_rfl) (e := Extern.MapsClone.clone) (by kernel_rfl), run_maps_clone_sl w _ hb]
  simp only [Result.andThen]
  rw [Oper.upon_value]
  go_wp2
  rw [run_typeAssert_map_sl _ 108 _ _ _ _ Try.underlying108]
  simp only [Result.andThen]
  rw [Oper.upon_value]
  go_wp2
  go_ret
  exact ⟨rfl, hfin, ⟨rfl, rfl, rfl⟩⟩

set_option maxHeartbeats 1600000 in
set_option maxRecDepth 100000 in
theorem cloneIL_spec (o : Own w (mpI f mb m :: R)) : Calls Try.prog 70 #[.map (some mb)] w (ClonePost f mb m R w) := by
  obtain ⟨es, clock, h1, h2, h3, o1⟩ := Own.mpI.1 o
  have hb := o1.blk
  have hq := fun w => run_eql_map_nil_sl (P := Try.prog) w 124 _ _ (some mb) Try.underlying124
  have hfin : Own (w.alloc (.map es clock)) (mpI f w.heap.size m :: mpI f mb m :: R) := Own.mpI.2 ⟨es, clock, h1, h2, h3, o.alloc _⟩
  go_enter Try.func70, Try.ntmps70
  go_wp2
  rw [run_callFunc_extern Try.func95 (by kernel_rfl) (by kernel_rfl) (by kernel_rfl) (e := Extern.MapsClone.clone) (by kernel_rfl), run_maps_clone_sl w _ hb]
  simp only [Result.andThen]
  rw [Oper.upon_value]
  go_wp2
  rw [run_typeAssert_map_sl _ 124 _ _ _ _ Try.underlying124]
  simp only [Result.andThen]
  rw [Oper.upon_value]
  go_wp2
  go_ret
  exact ⟨rfl, hfin, ⟨rfl, rfl, rfl⟩⟩

def CopyPost (b : Nat) (reb tm : Int) (el tg : List (Int × Int)) (R : List SP) (w : World) (e : Ending) (w' : World) : Prop :=
  ∃ p, Ret (.pointer (some ⟨p, 0, none⟩)) (OrderR p reb el tg tm :: OrderR b reb el tg tm :: R) w e w'

set_option maxHeartbeats 3200000 in
set_option maxRecDepth 100000 in
theorem compCopy_spec (o : Own w (OrderR b reb el tg tm :: R)) : Calls Try.prog 32 #[.pointer (some ⟨b, 0, none⟩)] w (CopyPost b reb tm el tg R w) := by
  obtain ⟨eb, tb, o1⟩ := OrderR.iff.1 o
  have c0 := o1.cell 0
  have c1 := o1.cell 1
  have c2 := o1.cell 2
  have c3 := o1.cell 3
  have hlt := o1.celLt
  have oA := o1.alloc (.cells #[.int .i64 reb, .map (some eb), .map (some tb), .int .i64 tm] 130)
  have oAd : Own (w.alloc (.cells #[.int .i64 reb, .map (some eb), .map (some tb), .int .i64 tm] 130)).drew (mpI (Value.int .i64) eb el :: cel w.heap.size 130 [.int .i64 reb, .map (some eb), .map (some tb), .int .i64 tm] :: cel b 130 [.int .i64 reb, .map (some eb), .map (some tb), .int .i64 tm] :: mpI (Value.int .i64) tb tg :: R) := oA.drew.re [2, 0, 1, 3]
  have hsz : (w.alloc (.cells #[.int .i64 reb, .map (some eb), .map (some tb), .int .i64 tm] 130)).drew.heap.size = w.heap.size + 1 := by simp
  have HSZ := Lib.hid hsz
  clear hsz
  have q0 := (oA.up 1).cell 1
  have q1 := (oA.up 1).cell 2
  go_enter Try.func32, Try.ntmps32
  go_wp2
  go_region_held3 (fun w' => w'.cell? ⟨b, 1, none⟩ = some (.map (some eb)) ∧ w'.cell? ⟨b, 2, none⟩ = some (.map (some tb))) (go_keep) (first
    | (go_at_call 71; (with_reducible refine (cloneII_spec oAd).mono ?_); rintro e2 w2 ⟨rfl, o2, k2⟩; rw [HSZ.out] at o2; have x1 := (o2.up 3).cell 1; have x2 := (o2.up 3).cell 2; have o2b := o2.re [4, 0, 1, 2, 3])
    | (go_at_call 70; (with_reducible refine (cloneIL_spec o2b).mono ?_); rintro e3 w3 ⟨rfl, o3, k3⟩; have y1 := (o3.up 5).cell 1; have y2 := (o3.up 5).cell 2; have z1 := (o3.up 4).cell 1; have z2 := (o3.up 4).cell 2; have zf := (o3.up 4).frozen; have zl := (o3.up 4).celLt; have oS := (o3.up 4).setCell 1 (.map (some (w.heap.size + 1))); have s1 := (oS.up 5).cell 1; have s2 := (oS.up 5).cell 2; have s3 := oS.cell 2; have sf := oS.frozen; have sl := oS.celLt; have oS2 := oS.setCell 2 (.map (some w2.heap.size)); have t1 := (oS2.up 5).cell 1; have t2 := (oS2.up 5).cell 2))
  go_wp2
  go_ret
  have K := Calm.trans k2 k3
  refine ⟨w.heap.size, rfl, ?_, ⟨K.os, K.tape, K.output⟩⟩
  have oX := oS2.re [5, 4, 2, 0, 3, 1]
  have oY : Own _ (OrderR b reb el tg tm :: cel w.heap.size 130 [.int .i64 reb, .map (some (w.heap.size + 1)), .map (some w2.heap.size), .int .i64 tm] :: mpI (Value.int .i64) (w.heap.size + 1) el :: mpI (Value.int .i64) w2.heap.size tg :: R) := OrderR.iff.2 ⟨eb, tb, oX⟩
  exact OrderR.iff.2 ⟨_, _, oY.re [1, 2, 3, 0]⟩
end
end Go.Proofs.Ytkmlkpfabkhleaa

/- The copy of a reference of sfq. -/
namespace Go.Proofs.Ytkmlkpfabkhleaa
open Go.RowKit
open SP
section
variable {W w w' : World} {R : List SP} {b mb : Nat} {m : List (Int × Tg)} {reb : Int} {S : St}

set_option maxHeartbeats 1600000 in
set_option maxRecDepth 100000 in
theorem cloneIT_spec (o : Own w (mpI tagV mb m :: R)) : Calls Try.prog 69 #[.map (some mb)] w (ClonePost tagV mb m R w) := by
  obtain ⟨es, clock, h1, h2, h3, o1⟩ := Own.mpI.1 o
  have hb := o1.blk
  have hq := fun w => run_eql_map_nil_sl (P := Try.prog) w 123 _ _ (some mb) Try.underlying123
  have hfin : Own (w.alloc (.map es clock)) (mpI tagV w.heap.size m :: mpI tagV mb m :: R) := Own.mpI.2 ⟨es, clock, h1, h2, h3, o.alloc _⟩
  go_enter Try.func69, Try.ntmps69
  go_wp2
  rw [run_callFunc_extern Try.func95 (by kernel_rfl) (by kernel_rfl) (by kernel_rfl) (e := Extern.MapsClone.clone) (by kernel_rfl), run_maps_clone_sl w _ hb]
  simp only [Result.andThen]
  rw [Oper.upon_value]
  go_wp2
  rw [run_typeAssert_map_sl _ 123 _ _ _ _ Try.underlying123]
  simp only [Result.andThen]
  rw [Oper.upon_value]
  go_wp2
  go_ret
  exact ⟨rfl, hfin, ⟨rfl, rfl, rfl⟩⟩

def SfqCopyPost (b : Nat) (reb : Int) (S : St) (R : List SP) (w : World) (e : Ending) (w' : World) : Prop :=
  ∃ p, Ret (.pointer (some ⟨p, 0, none⟩)) (SfqR p reb S :: SfqR b reb S :: R) w e w'

set_option maxHeartbeats 3200000 in
set_option maxRecDepth 100000 in
theorem sfqCopyC_spec (o : Own w (SfqR b reb S :: R)) : Calls Try.prog 31 #[.pointer (some ⟨b, 0, none⟩)] w (SfqCopyPost b reb S R w) := by
  obtain ⟨ab, rb, m, rem, hm, hold, hur, hok, o1⟩ := SfqR.iff.1 o
  have Hold := Lib.hid hold
  clear hold
  have c0 := o1.cell 0
  have c1 := o1.cell 1
  have c2 := o1.cell 2
  have c3 := o1.cell 3
  have c4 := o1.cell 4
  have hlt := o1.celLt
  have oA := o1.alloc (.cells #[.int .i64 reb, .map (some ab), .map (some rb), .int .i64 S.tm, .int .i64 S.aw] 126)
  have oAd : Own (w.alloc (.cells #[.int .i64 reb, .map (some ab), .map (some rb), .int .i64 S.tm, .int .i64 S.aw] 126)).drew (mpI tagV ab m :: cel w.heap.size 126 [.int .i64 reb, .map (some ab), .map (some rb), .int .i64 S.tm, .int .i64 S.aw] :: cel b 126 [.int .i64 reb, .map (some ab), .map (some rb), .int .i64 S.tm, .int .i64 S.aw] :: mpI (Value.int .i64) rb rem :: R) := oA.drew.re [2, 0, 1, 3]
  have hsz : (w.alloc (.cells #[.int .i64 reb, .map (some ab), .map (some rb), .int .i64 S.tm, .int .i64 S.aw] 126)).drew.heap.size = w.heap.size + 1 := by simp
  have HSZ := Lib.hid hsz
  clear hsz
  have q0 := (oA.up 1).cell 1
  have q1 := (oA.up 1).cell 2
  go_enter Try.func31, Try.ntmps31
  go_wp2
  go_region_held3 (fun w' => w'.cell? ⟨b, 1, none⟩ = some (.map (some ab)) ∧ w'.cell? ⟨b, 2, none⟩ = some (.map (some rb))) (go_keep) (first
    | (go_at_call 69; (with_reducible refine (cloneIT_spec oAd).mono ?_); rintro e2 w2 ⟨rfl, o2, k2⟩; rw [HSZ.out] at o2; have x1 := (o2.up 3).cell 1; have x2 := (o2.up 3).cell 2; have o2b := o2.re [4, 0, 1, 2, 3])
    | (go_at_call 70; (with_reducible refine (cloneIL_spec o2b).mono ?_); rintro e3 w3 ⟨rfl, o3, k3⟩; have y1 := (o3.up 5).cell 1; have y2 := (o3.up 5).cell 2; have z1 := (o3.up 4).cell 1; have z2 := (o3.up 4).cell 2; have zf := (o3.up 4).frozen; have zl := (o3.up 4).celLt; have oS := (o3.up 4).setCell 1 (.map (some (w.heap.size + 1))); have s1 := (oS.up 5).cell 1; have s2 := (oS.up 5).cell 2; have s3 := oS.cell 2; have sf := oS.frozen; have sl := oS.celLt; have oS2 := oS.setCell 2 (.map (some w2.heap.size)); have t1 := (oS2.up 5).cell 1; have t2 := (oS2.up 5).cell 2))
  go_wp2
  go_ret
  have K := Calm.trans k2 k3
  refine ⟨w.heap.size, rfl, ?_, ⟨K.os, K.tape, K.output⟩⟩
  have oX := oS2.re [5, 4, 2, 0, 3, 1]
  have oY : Own _ (SfqR b reb S :: cel w.heap.size 126 [.int .i64 reb, .map (some (w.heap.size + 1)), .map (some w2.heap.size), .int .i64 S.tm, .int .i64 S.aw] :: mpI tagV (w.heap.size + 1) m :: mpI (Value.int .i64) w2.heap.size rem :: R) := SfqR.iff.2 ⟨ab, rb, m, rem, hm, Hold.out, hur, hok, oX⟩
  exact SfqR.iff.2 ⟨_, _, m, rem, hm, Hold.out, hur, hok, oY.re [1, 2, 3, 0]⟩
end
end Go.Proofs.Ytkmlkpfabkhleaa

/- The scheduler of cifq in memory; whether heads fit it; whether a flow leads. -/
namespace Go.Proofs.Ytkmlkpfabkhleaa
open Go.RowKit
open SP
section
variable {W w w' : World} {R : List SP} {b rp lp cp xp nb N : Nat} {num den reb : Int} {S : St} {D : List Tg}

/-- The struct of a scheduler. -/
abbrev CqC (b : Nat) (num den : Int) (rp lp cp xp nb : Nat) : SP := cel b 74 [.int .i64 num, .int .i64 den, .pointer (some ⟨rp, 0, none⟩), .pointer (some ⟨lp, 0, none⟩), .pointer (some ⟨cp, 0, none⟩), .pointer (some ⟨xp, 0, none⟩), .map (some nb)]

set_option maxHeartbeats 1600000 in
set_option maxRecDepth 100000 in
theorem fits_spec {S1 : SP} {a : Option Addr} {n c : Nat} {H : List Head} (h1 : HeadsAt S1 a H) (hn : n = H.length) (hl : n ≤ 1000) (o : Own w (CqC b num den rp lp cp xp nb :: SfqR rp reb S :: S1 :: R)) :
    Calls Try.prog 30 #[.pointer (some ⟨b, 0, none⟩), .slice a n c] w (Ret (.bool (fitsH S.L H)) (CqC b num den rp lp cp xp nb :: SfqR rp reb S :: S1 :: R) w) := by
  have c2 := o.cell 2
  have hlt := o.celLt
  rw [← fitsL_eq]
  obtain ⟨X, hX⟩ : ∃ X, fitsL H S.L = X := ⟨_, rfl⟩
  rw [hX]
  have HX := Lib.hid hX
  have Hn := Lib.hid hn
  clear hX hn
  go_enter Try.func30, Try.ntmps30
  go_wp2_with fail
  refine (sfqTags_spec (o.re [1, 0, 2])).mono ?_
  rintro e1 w1 ⟨a', c', rfl, o1, k1⟩
  have he := equalFunc_spec (c := c) (n' := S.L.length) (c' := c') h1 (tagsAt_slc a' S.L.length c' S.L rfl) Hn.out rfl hl (o1.re [3, 0, 1, 2])
  rw [HX.out] at he
  go_wp2_with fail
  refine he.mono ?_
  rintro e2 w2 ⟨rfl, o2, k2⟩
  clear he
  go_wp2
  go_ret
  exact ⟨rfl, (o2.re [1, 3, 2, 0]).drop, Calm.trans k1 k2⟩

theorem lagV_eq (D : List Tg) (f : Int) : ∃ z, lagV D f = .tuple #[.int .i64 (lagO D f), .bool z] := by
  unfold lagV lagO
  cases fget D f <;> exact ⟨_, rfl⟩

set_option maxHeartbeats 1600000 in
set_option maxRecDepth 100000 in
theorem leading_spec (f : Int) (o : Own w (CqC b num den rp lp cp xp nb :: LagR lp N D :: R)) :
    Calls Try.prog 38 #[.pointer (some ⟨b, 0, none⟩), .int .i64 f] w (Ret (.bool (decide (lagO D f < 0))) (CqC b num den rp lp cp xp nb :: LagR lp N D :: R) w) := by
  have c3 := o.cell 3
  have hlt := o.celLt
  obtain ⟨z, hz⟩ := lagV_eq D f
  have hc := lagLag_spec f (o.up 1)
  rw [hz] at hc
  clear hz
  generalize lagO D f = X at *
  go_enter Try.func38, Try.ntmps38
  go_wp2_with fail
  refine hc.mono ?_
  rintro e1 w1 ⟨rfl, o1, k1⟩
  clear hc
  go_wp2
  go_ret
  exact ⟨rfl, o1.up 1, k1⟩
end
end Go.Proofs.Ytkmlkpfabkhleaa

/- Whether a leading flow of cifq keeps its slot. -/
namespace Go.Proofs.Ytkmlkpfabkhleaa
open Go.RowKit
open SP
section
variable {W w w' : World} {R : List SP} {b rp lp cp xp nb N : Nat} {num den reb : Int} {S : St} {D : List Tg} {m : List (Int × (Int × Int))}

def cntV (x : Int × Int) : Value := .agg #[.int .i64 x.1, .int .i64 x.2]
theorem Try.zeroCnt (w : World) : (zeroValue 87).run Try.prog w = .ok (.agg #[.int .i64 0, .int .i64 0]) w := by kernel_rfl
theorem lookC (o : Own w (mpI cntV nb m :: R)) (k : Int) :
    (Instr.lookup 72 (.map (some nb)) (.int .i64 k) false).run Try.prog w = .ok (cntV (cntO m k)) w := by
  rw [run_lookup_mpI Try.underlying72 Try.underlying3 Try.zeroCnt o k false]
  unfold cntO
  cases mget m k <;> rfl
theorem cmpZ_le (x y : Int) : (cmpZ x y ≤ 0) = (x ≤ y) := by
  unfold cmpZ
  by_cases h1 : x < y
  · rw [if_pos h1]; simp; omega
  · by_cases h2 : y < x
    · rw [if_neg h1, if_pos h2]; simp; omega
    · rw [if_neg h1, if_neg h2]; simp; omega
theorem wrapU {x : Nat} (h : x < 9223372036854775808) : IntKind.u64.wrap (x : Int) = (x : Int) := by rw [IntKind.wrap_u64]; omega
theorem mul_lt' {x y : Nat} (hx : x < 1099511627776) (hy : y < 4194304) : x * y < 9223372036854775808 := by
  have h1 : x * y ≤ 1099511627776 * 4194304 := Nat.mul_le_mul (by omega) (by omega)
  omega

set_option maxHeartbeats 1600000 in
set_option maxRecDepth 100000 in
theorem keeps_spec {nu de cr cl : Nat} (f : Int) (hnu : nu < 4194304) (hde : de < 4194304) (hcr : cr < 1099511627776) (hcl : cl < 1099511627776) (hc : cntO m f = ((cr : Int), (cl : Int)))
    (o : Own w (CqC b (nu : Int) (de : Int) rp lp cp xp nb :: mpI cntV nb m :: R)) :
    Calls Try.prog 39 #[.pointer (some ⟨b, 0, none⟩), .int .i64 f] w (Ret (.bool (keepsO (nu : Int) (de : Int) (cntO m f))) (CqC b (nu : Int) (de : Int) rp lp cp xp nb :: mpI cntV nb m :: R) w) := by
  have hlk := lookC (o.up 1) f
  have c6 := o.cell 6
  have hlt := o.celLt
  have oA := o.alloc (.cells #[.int .i64 (cr : Int), .int .i64 (cl : Int)] 87)
  have oB := (oA.up 1)
  have d0 := oB.cell 0
  have d1 := oB.cell 1
  rw [hc] at hlk ⊢
  have w1 := wrapU (x := cl) (by omega)
  have w2 := wrapU (x := de) (by omega)
  have w3 := wrapU (x := nu) (by omega)
  have w4 := wrapU (x := cr) (by omega)
  have hq := fun W (o' : Own W (blk w.heap.size (.cells #[.int .i64 (cr : Int), .int .i64 (cl : Int)] 87) :: CqC b (nu : Int) (de : Int) rp lp cp xp nb :: mpI cntV nb m :: R)) => cross_spec cl de nu cr (by omega) (by omega) (by omega) (by omega) (mul_lt' hcl hde) (by rw [Nat.mul_comm]; exact mul_lt' hcr hnu) o'
  have hv : keepsO (nu : Int) (de : Int) ((cr : Int), (cl : Int)) = decide (cmpZ ((cl * de : Nat) : Int) ((nu * cr : Nat) : Int) ≤ 0) := by
    unfold keepsO
    rw [decide_eq_decide, cmpZ_le]
    push_cast
    exact Iff.rfl
  rw [hv]
  clear hv hc
  generalize cmpZ ((cl * de : Nat) : Int) ((nu * cr : Nat) : Int) = X at *
  unfold cntV at hlk
  go_enter Try.func39, Try.ntmps39
  go_wp2
  refine wp_region_tail 18 (by kernel_rfl) (by kernel_rfl) ?_
  simp only [List.take_succ_cons, List.take_zero, List.drop_succ_cons, List.drop_zero]
  repeat still_step
  refine wpStill_nil ?_
  go_wp2_with fail
  refine (hq _ oA.drew).mono ?_
  rintro e1 w5 ⟨rfl, o1, k1⟩
  go_wp2
  go_ret
  exact ⟨rfl, o1.drop, ⟨k1.os, k1.tape, k1.output⟩⟩
end
end Go.Proofs.Ytkmlkpfabkhleaa

/- Ranging over a map with int keys while the entry that came is deleted; the counts of cifq reset. -/
namespace Go.Proofs.Ytkmlkpfabkhleaa
open Go.RowKit
open SP

section
variable {α : Type} {f : α → Value} {w w' : World} {R : List SP} {tb ib : Nat} {m : List (Int × α)} {S : Int → Bool} {cur : Option Int}
variable {P : Program} {t kt et : TypeId}

theorem mdel_erase (k : Int) : ∀ (m : List (Int × α)) (i : Nat), midx m k = some i → mdel m k = m.eraseIdx i
  | [], _, h => by simp [midx] at h
  | (k', v') :: m, i, h => by
    by_cases hk : k = k'
    · subst hk
      simp [midx] at h
      subst h
      simp [mdel]
    · simp only [midx, if_neg hk, Option.map_eq_some_iff] at h
      obtain ⟨j, hj, rfl⟩ := h
      simp [mdel, hk, mdel_erase k m j hj]

theorem run_delete_rng (ty : TypeId) (ht : P.underlying t = some (.map kt et)) (hk : P.underlying kt = some (.int .i64)) (o : Own w (SP.rng f tb ib m S cur :: R)) (k : Int) (hin : (mget m k).isSome = true) (ts : Array TypeId) (hts : ts[0]? = some t) :
    ∃ w', (Builtin.delete_ ts ty #[.map (some tb), .int .i64 k]).run P w = .ok (.tuple #[]) w' ∧ Own w' (SP.rng f tb ib (mdel m k) S none :: R) ∧ Calm w w' := by
  obtain ⟨es, clock, seen, h1, h2, h3, h4, h5, o⟩ := Own.rng.1 o
  have hb := o.blk
  have hm := midx_mget m k
  have hf := run_findKey_int (P := P) hk h1 k w
  obtain ⟨h6, h7⟩ := mdel_lists (f := f) k es.toList m h1
  obtain ⟨x, hmg⟩ := Option.isSome_iff_exists.1 hin
  obtain ⟨i, hmi⟩ : ∃ i, midx m k = some i := by rw [hin] at hm; exact Option.isSome_iff_exists.1 hm
  simp [hmi, hmg] at hf
  have e1 : (es.eraseIdxIfInBounds i).toList = es.toList.eraseIdx i := by simp
  refine ⟨_, ?_, Own.rng.2 ⟨es.eraseIdxIfInBounds i, clock, seen, ?_, ?_, ?_, ?_, (fun k h => by cases h), o.setMap _⟩, ⟨rfl, rfl, rfl⟩⟩
  · simp [Builtin.delete_, hts, run_underlying ht, getObj, setObj, Sem.run, hb, run_checkKey_int hk, hf]
  · rw [e1]; exact h6 i hmi
  · rw [e1]; exact h2.sublist (List.eraseIdx_sublist _ _)
  · rw [e1]; exact fun e he => h3 e ((List.eraseIdx_sublist _ _).subset he)
  · rw [e1, mdel_erase k m i hmi]
    intro j e y he hy
    rw [List.getElem?_eraseIdx] at he hy
    split at he
    · rename_i hlt
      rw [if_pos hlt] at hy
      exact h4 j e y he hy
    · rename_i hlt
      rw [if_neg hlt] at hy
      exact h4 (j + 1) e y he hy

theorem wpList_delete_rng {ops : Array Oper} {rest : List Oper} {op : Oper} {A : Act} {Q : Exit → Act → World → Prop} (hgd : op.guard = none) (x y : Operand)
    (hop : op.op = .call { callee := .builtin .delete, args := #[x, y], argTypes := #[t, kt] })
    (ht : P.underlying t = some (.map kt et)) (hk : P.underlying kt = some (.int .i64)) (o : Own w (SP.rng f tb ib m S cur :: R)) (k : Int) (hin : (mget m k).isSome = true)
    (hx : A.eval x = .map (some tb)) (hy : A.eval y = .int .i64 k)
    (h : ∀ w', Own w' (SP.rng f tb ib (mdel m k) S none :: R) → Calm w w' → wpList P ops Q rest (A.put op.dst (.tuple #[])) w') : wpList P ops Q (op :: rest) A w := by
  refine wpList_plain hgd fun K hK => ?_
  obtain ⟨w', hr, h2, h3⟩ := run_delete_rng op.type ht hk o k hin #[t, kt] rfl
  unfold Oper.wp execOp
  simp only [hop, resolve, invoke, builtin, Sem.run_bind, Sem.run_pure, Result.andThen_ok, List.map_toArray, List.map_cons, List.map_nil, hx, hy, hr]
  exact hK _ _ (h w' h2 h3)

theorem mdel_filtK : ∀ {m : List (Int × α)} (k : Int), Uniq m → mdel m k = m.filter fun x => !(x.1 == k)
  | [], _, _ => rfl
  | (k', v) :: m, k, hu => by
    have hu' : k' ∉ m.map (·.1) ∧ Uniq m := by unfold Uniq at *; simpa using hu
    by_cases hk : k = k'
    · subst hk
      have : m.filter (fun x => !(x.1 == k)) = m := List.filter_eq_self.2 fun x hx => by
        have : x.1 ≠ k := fun e => hu'.1 (List.mem_map.2 ⟨x, hx, e⟩)
        simpa using this
      simp [mdel, this]
    · have ih := mdel_filtK k hu'.2
      have : (k' == k) = false := by simpa using fun e => hk e.symm
      simp [mdel, hk, ih, this]
theorem kleft_sub {m m' : List (Int × α)} (h : m'.Sublist m) (S : Int → Bool) : kleft m' S ≤ kleft m S := by
  unfold kleft
  exact ((h.map _).filter _).length_le
/-- What is left of a map when the keys of S have come and those without p among them went. -/
def left (p S : Int → Bool) (n : List (Int × α)) : List (Int × α) := n.filter fun x => !(S x.1) || p x.1
theorem left_uniq {p S : Int → Bool} {n : List (Int × α)} (h : Uniq n) : Uniq (left p S n) := by
  unfold Uniq at *
  exact h.sublist ((List.filter_sublist).map _)
theorem left_start (p : Int → Bool) (n : List (Int × α)) : left p (fun _ => false) n = n := List.filter_eq_self.2 fun _ _ => rfl
theorem left_keep {p S : Int → Bool} {n : List (Int × α)} {k : Int} (h : p k = true) : left p (fun z => S z || z == k) n = left p S n := by
  unfold left
  refine List.filter_congr fun x _ => ?_
  dsimp only
  by_cases e : x.1 = k
  · rw [e, h]; simp
  · have : (x.1 == k) = false := by simpa using e
    rw [this]; simp
theorem left_del {p S : Int → Bool} {n : List (Int × α)} {k : Int} (hu : Uniq n) (h : p k = false) : left p (fun z => S z || z == k) n = mdel (left p S n) k := by
  rw [mdel_filtK k (left_uniq hu)]
  unfold left
  rw [List.filter_filter]
  refine List.filter_congr fun x _ => ?_
  dsimp only
  by_cases e : x.1 = k
  · rw [e, h]; simp
  · have : (x.1 == k) = false := by simpa using e
    rw [this]; simp
theorem left_done {p S : Int → Bool} {n : List (Int × α)} (h : ∀ x ∈ left p S n, S x.1 = true) : left p S n = n.filter fun x => p x.1 := by
  unfold left at *
  refine List.filter_congr fun x hx => ?_
  cases hS : S x.1 with
  | true => simp
  | false =>
    have := h x (List.mem_filter.2 ⟨hx, by simp [hS]⟩)
    rw [hS] at this; cases this
end
end Go.Proofs.Ytkmlkpfabkhleaa

/- The counts of the flows that no longer lead go. -/
namespace Go.Proofs.Ytkmlkpfabkhleaa
open Go.RowKit
open SP
section
variable {W w w' : World} {R : List SP} {b rp lp cp xp nb N : Nat} {num den reb : Int} {S : St} {D : List Tg} {m : List (Int × (Int × Int))}

def ResRel (b : Nat) (num den : Int) (rp lp cp xp nb N : Nat) (D : List Tg) (p : Int → Bool) (ib : Nat) (m : List (Int × (Int × Int))) (R : List SP) (w : World) (wr : World) : Prop :=
  ∃ (S : Int → Bool) (cur : Option Int), Own wr (rng cntV nb ib (left p S m) S cur :: CqC b num den rp lp cp xp nb :: LagR lp N D :: R) ∧ Calm w wr
set_option maxHeartbeats 3200000 in
set_option maxRecDepth 100000 in
theorem reset_spec (hu : Uniq m) (o : Own w (CqC b num den rp lp cp xp nb :: LagR lp N D :: mpI cntV nb m :: R)) :
    Calls Try.prog 41 #[.pointer (some ⟨b, 0, none⟩)] w (Ret (.tuple #[]) (CqC b num den rp lp cp xp nb :: LagR lp N D :: mpI cntV nb (resetC D m) :: R) w) := by
  have c6 := o.cell 6
  have hlt := o.celLt
  obtain ⟨p, hp⟩ : ∃ p : Int → Bool, p = fun k => decide (lagO D k < 0) := ⟨_, rfl⟩
  have hres : resetC D m = m.filter fun x => p x.1 := by rw [hp]; rfl
  have hlp : ∀ k, decide (lagO D k < 0) = p k := fun k => by rw [hp]
  rw [hres]
  obtain ⟨w5, hr5, o9, k9⟩ := run_range_mpI (P := Try.prog) Try.underlying72 (o.up 2)
  have hT : ResRel b num den rp lp cp xp nb N D p w.heap.size m R w w5 := ⟨fun _ => false, none, by rw [left_start]; exact o9, k9⟩
  generalize hib : w.heap.size = ib at *
  have HU := Lib.hid hu
  have HP := Lib.hid hlp
  clear o9 k9 hib hres hp hlp hu
  go_enter Try.func41, Try.ntmps41
  go_wp2
  go_loopw [2] (fun _ wr => ResRel b num den rp lp cp xp nb N D p ib m R w wr) (fun _ wr => rleft wr nb ib)
  case atStart => exact hT
  case round =>
    clear hT hr5 c6 o hlt
    obtain ⟨S, cur, oR, kR⟩ := hrel
    have hum := left_uniq (p := p) (S := S) HU.out
    rcases run_next_rng (P := Try.prog) 0 hum oR with ⟨hd, hr⟩ | ⟨x, w6, hx, hS, hr, o10, k10⟩
    · have hall := left_done hd
      have oD := oR.rng_done
      rw [hall] at oD
      clear hd hall hum
      go_wp2
      go_end0
      exact ⟨rfl, oD.re [1, 2, 0], kR⟩
    · have hmv := mget_mem hum hx
      have hen := run_entry_rng (P := Try.prog) hum o10 hmv
      have hlt2 := kleft_lt hx hS
      have hw := oR.rleft
      obtain ⟨k, t⟩ := x
      dsimp only at hS hmv hen o10 hlt2 hr
      have hc := leading_spec k (o10.re [1, 2, 0])
      rw [HP.out] at hc
      have HLT := Lib.hid hlt2
      have HW := Lib.hid hw
      have HX := Lib.hid hx
      have HUM := Lib.hid hum
      clear hlt2 hw hx hum
      unfold cntV at hr hen
      cases hpk : p k with
      | true =>
        rw [hpk] at hc
        have HPK := Lib.hid hpk
        clear hpk
        go_wp2_with fail
        refine hc.mono ?_
        rintro e1 w7 ⟨rfl, o7, k7⟩
        clear hc
        go_wp2
        go_roundw
        case rel => exact ⟨fun z => S z || z == k, some k, by rw [left_keep HPK.out]; exact o7.re [2, 0, 1], ⟨(k7.os.trans k10.os).trans kR.os, (k7.tape.trans k10.tape).trans kR.tape, (k7.output.trans k10.output).trans kR.output⟩⟩
        case measure =>
          rw [(o7.re [2, 0, 1]).rleft, HW.out]
          exact HLT.out
      | false =>
        rw [hpk] at hc
        have HPK := Lib.hid hpk
        clear hpk
        go_wp2_with fail
        refine hc.mono ?_
        rintro e1 w7 ⟨rfl, o7, k7⟩
        clear hc
        have d6 := o7.cell 6
        have hb7 := o7.celLt
        go_wp2_with (at_delete; refine wpList_delete_rng rfl _ _ rfl Try.underlying72 Try.underlying3 (o7.re [2, 0, 1]) k (by rw [hmv]; rfl) rfl rfl ?c1)
        case c1 =>
        intro w8 o8 k8
        go_wp2
        go_roundw
        case rel => exact ⟨fun z => S z || z == k, none, by rw [left_del HU.out HPK.out]; exact o8, ⟨((k8.os.trans k7.os).trans k10.os).trans kR.os, ((k8.tape.trans k7.tape).trans k10.tape).trans kR.tape, ((k8.output.trans k7.output).trans k10.output).trans kR.output⟩⟩
        case measure =>
          rw [o8.rleft, HW.out]
          refine Nat.lt_of_le_of_lt (kleft_sub ?_ _) HLT.out
          rw [mdel_filtK k HUM.out]
          exact List.filter_sublist
end
end Go.Proofs.Ytkmlkpfabkhleaa

/- The parts of the flows that could send. -/
namespace Go.Proofs.Ytkmlkpfabkhleaa
open Go.RowKit
open SP
section
variable {W w w' : World} {R : List SP} {b rp lp cp xp nb N : Nat} {num den reb : Int} {S : St} {D : List Tg}

def pickT (D : List Tg) (p : Head → Bool) (H : List Head) (i : Nat) : List (Int × Int) := (((H.zip (ptsOf D)).take i).filter fun x => p x.1).map (·.2)
theorem pickT_all {D : List Tg} {p : Head → Bool} {H : List Head} {i : Nat} (h : H.length ≤ i) : pickT D p H i = pickH D p H := by
  unfold pickT pickH
  rw [List.take_of_length_le (by rw [List.length_zip]; omega)]
theorem pickT_step {D : List Tg} {p : Head → Bool} {H : List Head} {i : Nat} {h : Head} {t : Tg} (e1 : H[i]? = some h) (e2 : D[i]? = some t) :
    pickT D p H (i + 1) = if p h then pickT D p H i ++ [(t.f, t.w)] else pickT D p H i := by
  have e : (H.zip (ptsOf D))[i]? = some (h, (t.f, t.w)) := by
    rw [List.getElem?_zip_eq_some]
    exact ⟨e1, by unfold ptsOf; rw [List.getElem?_map, e2]; rfl⟩
  unfold pickT
  rw [List.take_add_one, e]
  simp only [Option.toList_some, List.filter_append, List.map_append]
  by_cases hp : p h = true
  · rw [if_pos hp, List.filter_cons_of_pos (by simpa using hp)]; simp
  · rw [if_neg hp, List.filter_cons_of_neg (by simpa using hp)]; simp
theorem pickT_len (D : List Tg) (p : Head → Bool) (H : List Head) (i : Nat) : (pickT D p H i).length ≤ i := by
  unfold pickT
  rw [List.length_map]
  exact Nat.le_trans (List.length_filter_le _ _) (by rw [List.length_take]; omega)
def goodP (h : Head) : Bool := h.good
def lagP (D : List Tg) (h : Head) : Bool := h.good && decide (0 < lagO D h.f)

def SndRel (b : Nat) (num den : Int) (rp lp cp xp nb N : Nat) (D : List Tg) (H : List Head) (ap : Option Addr) (pc : Nat) (Sp : SP) (R : List SP) (w : World) (v4 v5 v18 : Value) (wr : World) : Prop :=
  ∃ (i : Nat) (a1 a2 : Option Addr) (c1 c2 : Nat), v18 = .int .i64 (i : Int) ∧ i ≤ H.length ∧ v4 = .slice a1 (pickT D goodP H i).length c1 ∧ v5 = .slice a2 (pickT D (lagP D) H i).length c2 ∧
    Own wr (slc 134 2 a1 (pickT D goodP H i).length c1 (flat part (pickT D goodP H i)) :: slc 134 2 a2 (pickT D (lagP D) H i).length c2 (flat part (pickT D (lagP D) H i)) ::
      slc 134 2 ap D.length pc (flat part (ptsOf D)) :: CqC b num den rp lp cp xp nb :: LagR lp N D :: Sp :: R) ∧ Calm w wr
def SndPost (b : Nat) (num den : Int) (rp lp cp xp nb N : Nat) (D : List Tg) (H : List Head) (Sp : SP) (R : List SP) (w : World) (e : Ending) (w' : World) : Prop :=
  ∃ (a1 a2 : Option Addr) (c1 c2 : Nat), Ret (.tuple #[.slice a1 (allH D H).length c1, .slice a2 (lagH D H).length c2])
    (slc 134 2 a1 (allH D H).length c1 (flat part (allH D H)) :: slc 134 2 a2 (lagH D H).length c2 (flat part (lagH D H)) :: CqC b num den rp lp cp xp nb :: LagR lp N D :: Sp :: R) w e w'

set_option maxHeartbeats 3200000 in
set_option maxRecDepth 100000 in
theorem sending_spec {Sp : SP} {a : Option Addr} {n c : Nat} {H : List Head} (h1 : HeadsAt Sp a H) (hn : n = H.length) (hD : D.length = n) (hl : n ≤ 32) (o : Own w (CqC b num den rp lp cp xp nb :: LagR lp N D :: Sp :: R)) :
    Calls Try.prog 33 #[.pointer (some ⟨b, 0, none⟩), .slice a n c] w (SndPost b num den rp lp cp xp nb N D H Sp R w) := by
  have c3 := o.cell 3
  have hlt := o.celLt
  have Hn := Lib.hid hn
  have HD := Lib.hid hD
  clear hn hD
  go_enter Try.func33, Try.ntmps33
  go_wp2_with fail
  refine (lagParts_spec (o.up 1)).mono ?_
  rintro e1 w1 ⟨ap, pc, rfl, o1, k1⟩
  have hT : SndRel b num den rp lp cp xp nb N D H ap pc Sp R w (.slice none 0 0) (.slice none 0 0) (.int .i64 0) w1 :=
    ⟨0, none, none, 0, 0, rfl, by omega, rfl, rfl, Own.slc_nil (Own.slc_nil (o1.re [0, 2, 1, 3])), k1⟩
  clear o1 k1 c3 hlt o
  go_wp2
  go_loopw [4, 5, 18] (fun v4 v5 v18 wr => SndRel b num den rp lp cp xp nb N D H ap pc Sp R w v4 v5 v18 wr) (fun _ _ v _ => n - (Lib.intOf v).toNat)
  case atStart => exact hT
  case round =>
    clear hT
    obtain ⟨i, a1, a2, q1, q2, rfl, hi, rfl, rfl, oR, kR⟩ := hrel
    by_cases hil : i < n
    · obtain ⟨h, hh⟩ : ∃ h, H[i]? = some h := ⟨_, List.getElem?_eq_getElem (by have := Hn.out; omega)⟩
      obtain ⟨t, ht⟩ : ∃ t, D[i]? = some t := ⟨_, List.getElem?_eq_getElem (by have := HD.out; omega)⟩
      have st1 := pickT_step (p := goodP) hh ht
      have st2 := pickT_step (p := lagP D) hh ht
      have l1 := pickT_len D goodP H i
      have l2 := pickT_len D (lagP D) H i
      obtain ⟨g, rfl, d0, d1, d2⟩ := h1 _ _ (oR.up 5) i _ hh
      obtain ⟨gp, rfl, pcell, _, _⟩ := (oR.up 2).slc_cell (by have := HD.out; omega)
      have HF0 := Lib.hid (show (flat part (ptsOf D))[i * 2 + 0]? = some (.int .i64 t.f) by rw [flat_get part_len (ptsOf D) i 0 (t.f, t.w) (by unfold ptsOf; rw [List.getElem?_map, ht]; rfl) (by omega)]; rfl)
      have HF1 := Lib.hid (show (flat part (ptsOf D))[i * 2 + 1]? = some (.int .i64 t.w) by rw [flat_get part_len (ptsOf D) i 1 (t.f, t.w) (by unfold ptsOf; rw [List.getElem?_map, ht]; rfl) (by omega)]; rfl)
      have oB := oR.alloc (.cells #[.int .i64 h.f, .int .i64 h.len, .bool h.good] 41)
      clear pcell hh ht
      cases hg : h.good with
      | false =>
        have e1 : goodP h = false := hg
        have e2 : lagP D h = false := by unfold lagP; rw [hg]; rfl
        rw [e1] at st1
        rw [e2] at st2
        rw [hg] at d2 oB
        simp only [Bool.false_eq_true, if_false] at st1 st2
        have ST1 := Lib.hid st1
        have ST2 := Lib.hid st2
        clear st1 st2 e1 e2
        go_wp2
        go_roundw
        case rel => exact ⟨i + 1, a1, a2, q1, q2, by go_num, by have := Hn.out; omega, by rw [ST1.out], by rw [ST2.out], by rw [ST1.out, ST2.out]; exact oB.drop, ⟨kR.os, kR.tape, kR.output⟩⟩
        case measure => simp [Lib.intOf]; omega
      | true =>
        have e1 : goodP h = true := hg
        rw [e1] at st1
        rw [hg] at d2 oB
        simp only [if_true] at st1
        have ST1 := Lib.hid st1
        clear st1 e1
        obtain ⟨gp2, hq, pcell, _, _⟩ := (oB.up 3).slc_cell (by have := HD.out; omega)
        cases hq
        have b0 := pcell (i * 2 + 0) (.int .i64 t.f) (HF0.out)
        rw [Nat.add_zero] at b0
        have b1 := pcell (i * 2 + 1) (.int .i64 t.w) (HF1.out)
        have oA := oB.alloc (.cells #[.int .i64 t.f, .int .i64 t.w] 134)
        simp only [World.size_alloc] at oA
        have hiD : i < D.length := by have := HD.out; omega
        clear pcell
        go_wp2_with (at_builtin; refine wpList_append_slc rfl _ _ rfl Try.partT rfl (oA.up 2) ⟨wr.heap.size + 1, 0, none⟩ 1 1 [.int .i64 t.f, .int .i64 t.w] rfl rfl ?c1 ?c2 ?c3 ?c4 ?c5)
        case c1 => exact Own.news (T := 134) oA
        case c2 => intro u hu; simp at hu; rcases hu with rfl | rfl <;> rfl
        case c3 => unfold maxLen; omega
        case c4 => omega
        case c5 =>
        intro a3 q3 w5 o5 k5
        have o6 := (o5.up 1).drop
        have o7 := o6.drew.re [5, 4, 1, 0, 2, 3]
        have x3 := (o7.up 1).cell 3
        have xb := Own.cell (T := 41) (vs := [.int .i64 h.f, .int .i64 h.len, .bool true]) (o7.up 2) 0
        have hfl : flat part (pickT D goodP H i) ++ [.int .i64 t.f, .int .i64 t.w] = flat part (pickT D goodP H (i + 1)) := by rw [ST1.out]; unfold flat; simp [part]
        have HFL := Lib.hid hfl
        clear hfl
        obtain ⟨z, hz⟩ := lagV_eq D h.f
        have hcall := lagLag_spec h.f o7
        rw [hz] at hcall
        clear hz
        have e2 : lagP D h = decide (0 < lagO D h.f) := by unfold lagP; rw [hg]; rfl
        rw [e2] at st2
        clear e2 hg
        generalize lagO D h.f = lg at *
        have HST2 := Lib.hid st2
        clear st2
        go_wp2_with fail
        go_region_held3 (fun w' => w'.cell? ⟨b, 3, none⟩ = some (.pointer (some ⟨lp, 0, none⟩)) ∧ w'.cell? ⟨wr.heap.size, 0, none⟩ = some (.int .i64 h.f)) (go_keep) (first | (go_at_call 73; (with_reducible refine hcall.mono ?_); rintro e6 w6 ⟨rfl, o8, k8⟩; have y3 := (o8.up 1).cell 3; have yb := Own.cell (T := 41) (vs := [.int .i64 h.f, .int .i64 h.len, .bool true]) (o8.up 2) 0))
        clear hcall
        by_cases hlg : 0 < lg
        · have hst := HST2.out
          rw [if_pos (by simpa using hlg)] at hst
          have ST2 := Lib.hid hst
          clear hst
          obtain ⟨gp3, hq, pcell, _, _⟩ := (o8.up 5).slc_cell (by omega)
          cases hq
          have m0 := pcell (i * 2 + 0) (.int .i64 t.f) (HF0.out)
          rw [Nat.add_zero] at m0
          have m1 := pcell (i * 2 + 1) (.int .i64 t.w) (HF1.out)
          have oC := o8.alloc (.cells #[.int .i64 t.f, .int .i64 t.w] 134)
          clear pcell
          go_wp2_with (at_builtin; refine wpList_append_slc rfl _ _ rfl Try.partT rfl (oC.up 5) ⟨w6.heap.size, 0, none⟩ 1 1 [.int .i64 t.f, .int .i64 t.w] rfl rfl ?d1 ?d2 ?d3 ?d4 ?d5)
          case d1 => exact Own.news (T := 134) oC
          case d2 => intro u hu; simp at hu; rcases hu with rfl | rfl <;> rfl
          case d3 => unfold maxLen; omega
          case d4 => omega
          case d5 =>
          intro a4 q4 w7 o9 k9
          have hfl2 : flat part (pickT D (lagP D) H i) ++ [.int .i64 t.f, .int .i64 t.w] = flat part (pickT D (lagP D) H (i + 1)) := by rw [ST2.out]; unfold flat; simp [part]
          have HFL2 := Lib.hid hfl2
          clear hfl2
          have oE := (((o9.up 1).drop.up 3).drop).re [3, 0, 4, 2, 1]
          go_wp2
          go_roundw
          case rel =>
            refine ⟨i + 1, a3, a4, q3, q4, by go_num, by have := Hn.out; omega, by rw [ST1.out, List.length_append]; rfl, by rw [ST2.out, List.length_append]; rfl, ?_, kR.trans (Calm.trans ⟨k5.os, k5.tape, k5.output⟩ (Calm.trans ⟨k8.os, k8.tape, k8.output⟩ ⟨k9.os, k9.tape, k9.output⟩))⟩
            rw [HFL.out, HFL2.out] at oE
            have z1 : (pickT D goodP H (i + 1)).length = (pickT D goodP H i).length + 1 := by rw [ST1.out, List.length_append]; rfl
            have z2 : (pickT D (lagP D) H (i + 1)).length = (pickT D (lagP D) H i).length + 1 := by rw [ST2.out, List.length_append]; rfl
            rw [z1, z2]
            exact oE
          case measure => simp [Lib.intOf]; omega
        · have hst := HST2.out
          rw [if_neg (by simpa using hlg)] at hst
          have ST2 := Lib.hid hst
          clear hst
          have oE := ((o8.up 2).drop).re [2, 3, 4, 1, 0]
          go_wp2
          go_roundw
          case rel =>
            refine ⟨i + 1, a3, a2, q3, q2, by go_num, by have := Hn.out; omega, by rw [ST1.out, List.length_append]; rfl, by rw [ST2.out], ?_, kR.trans (Calm.trans ⟨k5.os, k5.tape, k5.output⟩ ⟨k8.os, k8.tape, k8.output⟩)⟩
            rw [HFL.out] at oE
            have z1 : (pickT D goodP H (i + 1)).length = (pickT D goodP H i).length + 1 := by rw [ST1.out, List.length_append]; rfl
            rw [z1, ST2.out]
            exact oE
          case measure => simp [Lib.intOf]; omega
    · have hin : H.length ≤ i := by have := Hn.out; omega
      have e1 : pickT D goodP H i = allH D H := pickT_all hin
      have e2 : pickT D (lagP D) H i = lagH D H := pickT_all hin
      rw [e1, e2] at oR ⊢
      clear e1 e2 hin
      go_wp2
      go_ret2
      exact ⟨a1, a2, q1, q2, rfl, ((oR.up 2).drop), kR⟩
end
end Go.Proofs.Ytkmlkpfabkhleaa

/- A service booked: the reference and one of the orders. -/
namespace Go.Proofs.Ytkmlkpfabkhleaa
open Go.RowKit
open SP
section
variable {W w w' : World} {R : List SP} {b rp lp cp xp nb N : Nat} {num den reb : Int} {S : St} {D : List Tg} {C X : Ord}

def OrdR (b : Nat) (reb : Int) (o : Ord) : SP := OrderR b reb o.el o.tg o.tm
structure OrdOk (o : Ord) : Prop where
  key : KeyOk o.el
  len : o.el.length ≤ 1000
  uniq : Uniq o.tg
  val : ∀ x ∈ o.tg, 0 ≤ x.2 ∧ x.2 ≤ 1099511627776
  tm : 0 ≤ o.tm ∧ o.tm ≤ 1099511627776

theorem servO_spec (f len : Int) (hC : OrdOk C) (o : Own w (OrdR b reb C :: R)) :
    Calls Try.prog 79 #[.pointer (some ⟨b, 0, none⟩), .int .i64 f, .int .i64 len] w (Ret (.int .i64 (servO reb C f len).1) (OrdR b reb (servO reb C f len).2 :: R) w) := by
  refine (serve_spec f len hC.key hC.len hC.uniq hC.val hC.tm o).mono ?_
  intro e w' h
  unfold ServPost at h
  unfold servO
  by_cases h1 : servE C.el C.tg f len ≠ 0
  · rw [if_pos h1] at h ⊢; exact h
  · rw [if_neg h1] at h ⊢
    by_cases h2 : servBy C.el C.tg C.tm f len < reb
    · rw [if_pos h2] at h ⊢; exact h
    · rw [if_neg h2] at h ⊢; exact h

def CqServPost (b : Nat) (num den : Int) (rp lp cp xp nb : Nat) (reb : Int) (S : St) (C X : Ord) (c : Chc) (len : Int) (R : List SP) (w : World) (e : Ending) (w' : World) : Prop :=
  if (chargeR reb S c.ch len).1 ≠ 0 then Ret (.int .i64 (chargeR reb S c.ch len).1) (CqC b num den rp lp cp xp nb :: SfqR rp reb (chargeR reb S c.ch len).2 :: OrdR cp reb C :: OrdR xp reb X :: R) w e w'
  else Ret (.int .i64 (servC reb C X c len).1) (CqC b num den rp lp cp xp nb :: SfqR rp reb (chargeR reb S c.ch len).2 :: OrdR cp reb (servC reb C X c len).2.1 :: OrdR xp reb (servC reb C X c len).2.2 :: R) w e w'

set_option maxHeartbeats 3200000 in
set_option maxRecDepth 100000 in
theorem cqServe_spec (c : Chc) (len : Int) (haw : 0 ≤ S.aw ∧ S.aw ≤ 1152921504606846976) (hC : OrdOk C) (hX : OrdOk X) (o : Own w (CqC b num den rp lp cp xp nb :: SfqR rp reb S :: OrdR cp reb C :: OrdR xp reb X :: R)) :
    Calls Try.prog 37 #[.pointer (some ⟨b, 0, none⟩), chV c, .int .i64 len] w (CqServPost b num den rp lp cp xp nb reb S C X c len R w) := by
  have c2 := o.cell 2
  have hlt := o.celLt
  unfold chV
  obtain ⟨ch, sv, why⟩ := c
  have oA := o.alloc (.cells #[.int .i64 ch, .int .i64 sv, .int .i64 why] 33)
  have hq := sfqCharge_spec ch len haw (oA.drew.re [2, 0, 1])
  unfold CqServPost
  dsimp only
  obtain ⟨Y, hY⟩ : ∃ Y, chargeR reb S ch len = Y := ⟨_, rfl⟩
  rw [hY] at hq ⊢
  clear hY
  obtain ⟨y, S'⟩ := Y
  dsimp only at hq ⊢
  by_cases hy : y = 0
  · subst hy
    simp only [ne_eq, not_true_eq_false, if_false]
    obtain ⟨V, hV⟩ : ∃ V, servC reb C X ⟨ch, sv, why⟩ len = V := ⟨_, rfl⟩
    rw [hV]
    have HV := Lib.hid hV
    clear hV
    go_enter Try.func37, Try.ntmps37
    go_wp2
    refine wp_region_tail 7 (by kernel_rfl) (by kernel_rfl) ?_
    simp only [List.take_succ_cons, List.take_zero, List.drop_succ_cons, List.drop_zero]
    repeat still_step
    refine wpStill_nil ?_
    go_wp2_with fail
    refine hq.mono ?_
    rintro e1 w1 ⟨rfl, o1, k1⟩
    clear hq
    have x4 := (o1.up 2).cell 4
    have x5 := (o1.up 2).cell 5
    have xl := (o1.up 2).celLt
    have z1 := Own.cell (T := 33) (vs := [.int .i64 ch, .int .i64 sv, .int .i64 why]) (o1.up 1) 1
    have z2 := Own.cell (T := 33) (vs := [.int .i64 ch, .int .i64 sv, .int .i64 why]) (o1.up 1) 2
    by_cases h23 : why = 2 ∨ why = 3
    · have e : servC reb C X ⟨ch, sv, why⟩ len = ((servO reb C sv len).1, (servO reb C sv len).2, X) := by unfold servC; rw [if_pos h23]
      have hs := servO_spec sv len hC (o1.drew.re [3, 0, 1, 2])
      have hv := HV.out
      rw [e] at hv
      clear e HV
      subst hv
      rcases h23 with rfl | rfl
      · go_wp2
        refine wp_region_tail 7 (by kernel_rfl) (by kernel_rfl) ?_
        simp only [List.take_succ_cons, List.take_zero, List.drop_succ_cons, List.drop_zero]
        repeat still_step
        refine wpStill_nil ?_
        go_wp2_with fail
        refine hs.mono ?_
        rintro e2 w2 ⟨rfl, o2, k2⟩
        clear hs
        go_wp2
        go_ret
        exact ⟨rfl, ((o2.up 2).drop).re [2, 1, 0], Calm.trans ⟨k1.os, k1.tape, k1.output⟩ ⟨k2.os, k2.tape, k2.output⟩⟩
      · go_wp2
        refine wp_region_tail 7 (by kernel_rfl) (by kernel_rfl) ?_
        simp only [List.take_succ_cons, List.take_zero, List.drop_succ_cons, List.drop_zero]
        repeat still_step
        refine wpStill_nil ?_
        go_wp2_with fail
        refine hs.mono ?_
        rintro e2 w2 ⟨rfl, o2, k2⟩
        clear hs
        go_wp2
        go_ret
        exact ⟨rfl, ((o2.up 2).drop).re [2, 1, 0], Calm.trans ⟨k1.os, k1.tape, k1.output⟩ ⟨k2.os, k2.tape, k2.output⟩⟩
    · have n2 : (why == 2) = false := by simpa using fun e => h23 (.inl e)
      have n3 : (why == 3) = false := by simpa using fun e => h23 (.inr e)
      by_cases h4 : why = 4
      · have e : servC reb C X ⟨ch, sv, why⟩ len = ((servO reb X sv len).1, C, (servO reb X sv len).2) := by unfold servC; rw [if_neg h23, if_pos h4]
        have hs := servO_spec sv len hX (o1.drew.re [4, 0, 1, 2, 3])
        have hv := HV.out
        rw [e] at hv
        clear e HV
        subst hv
        subst h4
        go_wp2
        refine wp_region_tail 7 (by kernel_rfl) (by kernel_rfl) ?_
        simp only [List.take_succ_cons, List.take_zero, List.drop_succ_cons, List.drop_zero]
        repeat still_step
        refine wpStill_nil ?_
        go_wp2_with fail
        refine hs.mono ?_
        rintro e2 w2 ⟨rfl, o2, k2⟩
        clear hs
        go_wp2
        go_ret
        exact ⟨rfl, ((o2.up 2).drop).re [2, 1, 3, 0], Calm.trans ⟨k1.os, k1.tape, k1.output⟩ ⟨k2.os, k2.tape, k2.output⟩⟩
      · have e : servC reb C X ⟨ch, sv, why⟩ len = (0, C, X) := by unfold servC; rw [if_neg h23, if_neg h4]
        have n4 : (why == 4) = false := by simpa using h4
        have hv := HV.out
        rw [e] at hv
        clear e HV
        subst hv
        go_wp2
        go_ret
        exact ⟨rfl, ((o1.up 1).drop).re [1, 0], ⟨k1.os, k1.tape, k1.output⟩⟩
  · have hb : (y == 0) = false := by simpa using hy
    have hb' : (y != 0) = true := by simpa using hy
    simp only [ne_eq, hy, not_false_eq_true, if_true]
    go_enter Try.func37, Try.ntmps37
    go_wp2
    refine wp_region_tail 7 (by kernel_rfl) (by kernel_rfl) ?_
    simp only [List.take_succ_cons, List.take_zero, List.drop_succ_cons, List.drop_zero]
    repeat still_step
    refine wpStill_nil ?_
    go_wp2_with fail
    refine hq.mono ?_
    rintro e1 w1 ⟨rfl, o1, k1⟩
    clear hq
    go_wp2
    go_ret
    exact ⟨rfl, ((o1.up 1).drop).re [1, 0], ⟨k1.os, k1.tape, k1.output⟩⟩
end
end Go.Proofs.Ytkmlkpfabkhleaa

/- The choice of cifq: the slot's flow keeps it. -/
namespace Go.Proofs.Ytkmlkpfabkhleaa
open Go.RowKit
open SP
section
variable {W w w' : World} {R : List SP} {b rp lp cp xp nb N : Nat} {num den reb : Int} {S : St} {D : List Tg} {C X : Ord} {m : List (Int × (Int × Int))}

theorem idxH_head {k : Int} : ∀ (j : Nat) (H : List Head), (∃ h ∈ H, h.f = k) → ∃ (i : Nat) (h : Head), H[i]? = some h ∧ idxH k j H = ((j + i : Nat) : Int) ∧ H.find? (fun h => h.f == k) = some h
  | _, [], h => by obtain ⟨_, h, _⟩ := h; cases h
  | j, x :: H, h => by
    by_cases hx : x.f = k
    · exact ⟨0, x, rfl, by simp [idxH, hx], by simp [hx]⟩
    · obtain ⟨y, hy, hyk⟩ := h
      have hin : y ∈ H := by
        rcases List.mem_cons.1 hy with rfl | h
        · exact absurd hyk hx
        · exact h
      obtain ⟨i, h, h1, h2, h3⟩ := idxH_head (j + 1) H ⟨y, hin, hyk⟩
      refine ⟨i + 1, h, by simpa using h1, ?_, ?_⟩
      · unfold idxH; rw [if_neg hx, h2]; congr 1; omega
      · rw [List.find?_cons_of_neg (by simpa using hx)]; exact h3
theorem headOf_idx {k : Int} {H : List Head} (h : ∃ h ∈ H, h.f = k) : ∃ (i : Nat), H[i]? = some (headOf H k) ∧ idxH k 0 H = (i : Int) := by
  obtain ⟨i, x, h1, h2, h3⟩ := idxH_head 0 H h
  exact ⟨i, by unfold headOf; rw [h3]; exact h1, by rw [h2, Nat.zero_add]⟩
theorem chRow {fn : Func} (h : fn.results = #[.cell 6 33]) {tmps : Array Value} {p : Nat} {x y z : Value} (hp : tmps.getD 6 undef = .pointer (some ⟨p, 0, none⟩))
    (o : Own w (cel p 33 [x, y, z] :: R)) : (results fn tmps).run Try.prog w = .ok (.agg #[x, y, z]) w :=
  results_cell_row h _ _ p _ _ _ _ hp o.blk Try.underlying33 rfl (by kernel_rfl)
/-- What the scheduler's parts are while it chooses. -/
abbrev ChoPool (b : Nat) (num den : Int) (rp lp cp xp nb N : Nat) (reb : Int) (S : St) (D : List Tg) (C X : Ord) (m : List (Int × (Int × Int))) (Sp : SP) (R : List SP) : List SP :=
  CqC b num den rp lp cp xp nb :: SfqR rp reb S :: LagR lp N D :: mpI cntV nb m :: OrdR cp reb C :: OrdR xp reb X :: Sp :: R

set_option maxHeartbeats 3200000 in
set_option maxRecDepth 100000 in
theorem choose_own {Sp : SP} {a : Option Addr} {n c : Nat} {H : List Head} {so : Bool} (h1 : HeadsAt Sp a H) (hn : n = H.length) (hl : n ≤ 32) (hk : ∃ h ∈ H, h.f = (selT S.L).1)
    (hg : (headOf H (selT S.L).1).good = true) (hld : decide (lagO D (selT S.L).1 < 0) = false) (o : Own w (ChoPool b num den rp lp cp xp nb N reb S D C X m Sp R)) :
    Calls Try.prog 35 #[.pointer (some ⟨b, 0, none⟩), .slice a n c, .bool so] w (Ret (chV ⟨(selT S.L).1, (selT S.L).1, 1⟩) (ChoPool b num den rp lp cp xp nb N reb S D C X m Sp R) w) := by
  unfold chV
  dsimp only
  have c2 := o.cell 2
  have hlt := o.celLt
  obtain ⟨i, hi, hix⟩ := headOf_idx hk
  have hin : i < n := by have := (List.getElem?_eq_some_iff.1 hi).1; omega
  have HI := Lib.hid hi
  have Hn := Lib.hid hn
  have oA := o.alloc (.cells #[.int .i64 0, .int .i64 0, .int .i64 0] 33)
  have hsel := sfqSelect_spec (oA.up 2)
  have HLD := Lib.hid hld
  obtain ⟨K, hK⟩ : ∃ K, headOf H (selT S.L).1 = K := ⟨_, rfl⟩
  rw [hK] at hg HI
  generalize (selT S.L).1 = k at *
  generalize (selT S.L).2 = e at *
  clear hi hn hk hld hK
  go_enter Try.func35, Try.ntmps35
  go_wp2_with fail
  refine hsel.mono ?_
  rintro e1 w1 ⟨rfl, o1, k1⟩
  clear hsel
  have hidx := cqIndex_spec (f := k) (c := c) h1 Hn.out (by omega) (o1.up 7)
  rw [hix] at hidx
  go_wp2_with fail
  refine hidx.mono ?_
  rintro e2 w2 ⟨rfl, o2, k2⟩
  clear hidx hix
  obtain ⟨g, rfl, d0, d1, d2⟩ := h1 _ _ o2 i _ HI.out
  rw [hg] at d2
  have o3 := (o2.alloc (.cells #[.int .i64 k, .int .i64 k, .int .i64 1] 33)).re [4, 5, 0, 1, 2, 3]
  have hlead := leading_spec k o3
  rw [HLD.out] at hlead
  go_wp2_with fail
  refine hlead.mono ?_
  rintro e3 w3 ⟨rfl, o4, k3⟩
  clear hlead
  have y0 := Own.cell (T := 33) (vs := [.int .i64 k, .int .i64 k, .int .i64 1]) (o4.up 2) 0
  have y1 := Own.cell (T := 33) (vs := [.int .i64 k, .int .i64 k, .int .i64 1]) (o4.up 2) 1
  have y2 := Own.cell (T := 33) (vs := [.int .i64 k, .int .i64 k, .int .i64 1]) (o4.up 2) 2
  have z0 := Own.cell (T := 33) (vs := [.int .i64 0, .int .i64 0, .int .i64 0]) (o4.up 5) 0
  have z1 := Own.cell (T := 33) (vs := [.int .i64 0, .int .i64 0, .int .i64 0]) (o4.up 5) 1
  have z2 := Own.cell (T := 33) (vs := [.int .i64 0, .int .i64 0, .int .i64 0]) (o4.up 5) 2
  have zf := Own.frozen (T := 33) (vs := [.int .i64 0, .int .i64 0, .int .i64 0]) (o4.up 5)
  have zl := Own.celLt (T := 33) (vs := [.int .i64 0, .int .i64 0, .int .i64 0]) (o4.up 5)
  have o5 := Own.setCell (T := 33) (vs := [.int .i64 0, .int .i64 0, .int .i64 0]) (o4.up 5) 0 (.int .i64 k)
  have o6 := Own.setCell (T := 33) (vs := [.int .i64 k, .int .i64 0, .int .i64 0]) o5 1 (.int .i64 k)
  have o7 := Own.setCell (T := 33) (vs := [.int .i64 k, .int .i64 k, .int .i64 0]) o6 2 (.int .i64 1)
  go_wp2
  refine bodyPost_ret (v := .agg #[.int .i64 k, .int .i64 k, .int .i64 1]) ?_ rfl ?_
  · exact chRow (p := w.heap.size) rfl rfl o7
  · exact ⟨rfl, ((o7.drop).up 2).drop.re [0, 3, 1, 4, 5, 6, 2], ⟨k3.os.trans (k2.os.trans k1.os), k3.tape.trans (k2.tape.trans k1.tape), k3.output.trans (k2.output.trans k1.output)⟩⟩
end
end Go.Proofs.Ytkmlkpfabkhleaa

/- The choice of cifq: a leading flow keeps its slot. -/
namespace Go.Proofs.Ytkmlkpfabkhleaa
open Go.RowKit
open SP
section
variable {W w w' : World} {R : List SP} {b rp lp cp xp nb N : Nat} {num den reb : Int} {S : St} {D : List Tg} {C X : Ord} {m : List (Int × (Int × Int))}

set_option maxHeartbeats 3200000 in
set_option maxRecDepth 100000 in
theorem choose_keeps {nu de cr cl : Nat} (hnu : nu < 4194304) (hde : de < 4194304) (hcr : cr < 1099511627776) (hcl : cl < 1099511627776) (hc : cntO m (selT S.L).1 = ((cr : Int), (cl : Int))) {Sp : SP} {a : Option Addr} {n c : Nat} {H : List Head} {so : Bool} (h1 : HeadsAt Sp a H) (hn : n = H.length) (hl : n ≤ 32) (hk : ∃ h ∈ H, h.f = (selT S.L).1)
    (hg : (headOf H (selT S.L).1).good = true) (hld : decide (lagO D (selT S.L).1 < 0) = true) (hkp : keepsO (nu : Int) (de : Int) (cntO m (selT S.L).1) = true) (o : Own w (ChoPool b (nu : Int) (de : Int) rp lp cp xp nb N reb S D C X m Sp R)) :
    Calls Try.prog 35 #[.pointer (some ⟨b, 0, none⟩), .slice a n c, .bool so] w (Ret (chV ⟨(selT S.L).1, (selT S.L).1, 1⟩) (ChoPool b (nu : Int) (de : Int) rp lp cp xp nb N reb S D C X m Sp R) w) := by
  unfold chV
  dsimp only
  have c2 := o.cell 2
  have hlt := o.celLt
  obtain ⟨i, hi, hix⟩ := headOf_idx hk
  have hin : i < n := by have := (List.getElem?_eq_some_iff.1 hi).1; omega
  have HI := Lib.hid hi
  have Hn := Lib.hid hn
  have oA := o.alloc (.cells #[.int .i64 0, .int .i64 0, .int .i64 0] 33)
  have hsel := sfqSelect_spec (oA.up 2)
  have HLD := Lib.hid hld
  have HKP := Lib.hid hkp
  have HC := Lib.hid hc
  obtain ⟨K, hK⟩ : ∃ K, headOf H (selT S.L).1 = K := ⟨_, rfl⟩
  rw [hK] at hg HI
  generalize (selT S.L).1 = k at *
  generalize (selT S.L).2 = e at *
  clear hi hn hk hld hK hkp hc
  go_enter Try.func35, Try.ntmps35
  go_wp2_with fail
  refine hsel.mono ?_
  rintro e1 w1 ⟨rfl, o1, k1⟩
  clear hsel
  have hidx := cqIndex_spec (f := k) (c := c) h1 Hn.out (by omega) (o1.up 7)
  rw [hix] at hidx
  go_wp2_with fail
  refine hidx.mono ?_
  rintro e2 w2 ⟨rfl, o2, k2⟩
  clear hidx hix
  obtain ⟨g, rfl, d0, d1, d2⟩ := h1 _ _ o2 i _ HI.out
  rw [hg] at d2
  have o3 := (o2.alloc (.cells #[.int .i64 k, .int .i64 k, .int .i64 1] 33)).re [4, 5, 0, 1, 2, 3]
  have hlead := leading_spec k o3
  rw [HLD.out] at hlead
  go_wp2_with fail
  refine hlead.mono ?_
  rintro e3 w3 ⟨rfl, o4, k3⟩
  clear hlead
  have hkeep := keeps_spec k hnu hde hcr hcl HC.out (o4.re [0, 6, 1, 2, 3, 4, 5])
  rw [HKP.out] at hkeep
  go_wp2_with fail
  refine hkeep.mono ?_
  rintro e4 w4 ⟨rfl, o4', k4⟩
  clear hkeep
  have y0 := Own.cell (T := 33) (vs := [.int .i64 k, .int .i64 k, .int .i64 1]) (o4'.up 3) 0
  have y1 := Own.cell (T := 33) (vs := [.int .i64 k, .int .i64 k, .int .i64 1]) (o4'.up 3) 1
  have y2 := Own.cell (T := 33) (vs := [.int .i64 k, .int .i64 k, .int .i64 1]) (o4'.up 3) 2
  have z0 := Own.cell (T := 33) (vs := [.int .i64 0, .int .i64 0, .int .i64 0]) (o4'.up 6) 0
  have z1 := Own.cell (T := 33) (vs := [.int .i64 0, .int .i64 0, .int .i64 0]) (o4'.up 6) 1
  have z2 := Own.cell (T := 33) (vs := [.int .i64 0, .int .i64 0, .int .i64 0]) (o4'.up 6) 2
  have zf := Own.frozen (T := 33) (vs := [.int .i64 0, .int .i64 0, .int .i64 0]) (o4'.up 6)
  have zl := Own.celLt (T := 33) (vs := [.int .i64 0, .int .i64 0, .int .i64 0]) (o4'.up 6)
  have o5 := Own.setCell (T := 33) (vs := [.int .i64 0, .int .i64 0, .int .i64 0]) (o4'.up 6) 0 (.int .i64 k)
  have o6 := Own.setCell (T := 33) (vs := [.int .i64 k, .int .i64 0, .int .i64 0]) o5 1 (.int .i64 k)
  have o7 := Own.setCell (T := 33) (vs := [.int .i64 k, .int .i64 k, .int .i64 0]) o6 2 (.int .i64 1)
  go_wp2
  refine bodyPost_ret (v := .agg #[.int .i64 k, .int .i64 k, .int .i64 1]) ?_ rfl ?_
  · exact chRow (p := w.heap.size) rfl rfl o7
  · exact ⟨rfl, ((o7.drop).up 3).drop.re [0, 4, 2, 1, 5, 6, 3], ⟨k4.os.trans (k3.os.trans (k2.os.trans k1.os)), k4.tape.trans (k3.tape.trans (k2.tape.trans k1.tape)), k4.output.trans (k3.output.trans (k2.output.trans k1.output))⟩⟩
end
end Go.Proofs.Ytkmlkpfabkhleaa

/- The choice of cifq: another flow is served. -/
namespace Go.Proofs.Ytkmlkpfabkhleaa
open Go.RowKit
open SP
section
variable {W w w' : World} {R : List SP} {b rp lp cp xp nb N : Nat} {num den reb : Int} {S : St} {D : List Tg} {C X : Ord} {m : List (Int × (Int × Int))}

set_option maxHeartbeats 3200000 in
set_option maxRecDepth 100000 in
theorem choose_error {Sp : SP} {a : Option Addr} {n c : Nat} {H : List Head} {so : Bool} (h1 : HeadsAt Sp a H) (hn : n = H.length) (hl : n ≤ 32) (hk : ∃ h ∈ H, h.f = (selT S.L).1)
    (hg : (headOf H (selT S.L).1).good = false) (hC : OrdOk C) (hj : 0 ≤ leastF C.el C.tg) (o : Own w (ChoPool b num den rp lp cp xp nb N reb S D C X m Sp R)) :
    Calls Try.prog 35 #[.pointer (some ⟨b, 0, none⟩), .slice a n c, .bool so] w (Ret (chV ⟨(selT S.L).1, leastF C.el C.tg, 3⟩) (ChoPool b num den rp lp cp xp nb N reb S D C X m Sp R) w) := by
  unfold chV
  dsimp only
  have c2 := o.cell 2
  have hlt := o.celLt
  obtain ⟨i, hi, hix⟩ := headOf_idx hk
  have hin : i < n := by have := (List.getElem?_eq_some_iff.1 hi).1; omega
  have HI := Lib.hid hi
  have Hn := Lib.hid hn
  have oA := o.alloc (.cells #[.int .i64 0, .int .i64 0, .int .i64 0] 33)
  have hsel := sfqSelect_spec (oA.up 2)
  obtain ⟨K, hK⟩ : ∃ K, headOf H (selT S.L).1 = K := ⟨_, rfl⟩
  rw [hK] at hg HI
  generalize (selT S.L).1 = k at *
  generalize (selT S.L).2 = e at *
  clear hi hn hk hK
  go_enter Try.func35, Try.ntmps35
  go_wp2_with fail
  refine hsel.mono ?_
  rintro e1 w1 ⟨rfl, o1, k1⟩
  clear hsel
  have hidx := cqIndex_spec (f := k) (c := c) h1 Hn.out (by omega) (o1.up 7)
  rw [hix] at hidx
  go_wp2_with fail
  refine hidx.mono ?_
  rintro e2 w2 ⟨rfl, o2, k2⟩
  clear hidx hix
  obtain ⟨g, rfl, d0, d1, d2⟩ := h1 _ _ o2 i _ HI.out
  rw [hg] at d2
  have o3 := (o2.alloc (.cells #[.int .i64 k, .int .i64 k, .int .i64 1] 33)).up 7
  have hlead := select_spec hC.key hC.len o3
  have x4 := (o3.up 5).cell 4
  have hsv : selV C.el C.tg = .tuple #[.int .i64 (leastF C.el C.tg), .int .i64 0] := by unfold selV; rw [if_neg (by omega)]
  rw [hsv] at hlead
  clear hsv
  generalize leastF C.el C.tg = jj at *
  go_wp2_with fail
  refine hlead.mono ?_
  rintro e3 w3 ⟨rfl, o4, k3⟩
  clear hlead
  have y0 := Own.cell (T := 33) (vs := [.int .i64 k, .int .i64 k, .int .i64 1]) (o4.up 1) 0
  have y1 := Own.cell (T := 33) (vs := [.int .i64 k, .int .i64 k, .int .i64 1]) (o4.up 1) 1
  have y2 := Own.cell (T := 33) (vs := [.int .i64 k, .int .i64 k, .int .i64 1]) (o4.up 1) 2
  have z0 := Own.cell (T := 33) (vs := [.int .i64 0, .int .i64 0, .int .i64 0]) (o4.up 4) 0
  have z1 := Own.cell (T := 33) (vs := [.int .i64 0, .int .i64 0, .int .i64 0]) (o4.up 4) 1
  have z2 := Own.cell (T := 33) (vs := [.int .i64 0, .int .i64 0, .int .i64 0]) (o4.up 4) 2
  have zf := Own.frozen (T := 33) (vs := [.int .i64 0, .int .i64 0, .int .i64 0]) (o4.up 4)
  have zl := Own.celLt (T := 33) (vs := [.int .i64 0, .int .i64 0, .int .i64 0]) (o4.up 4)
  have o5 := Own.setCell (T := 33) (vs := [.int .i64 0, .int .i64 0, .int .i64 0]) (o4.up 4) 0 (.int .i64 k)
  have o6 := Own.setCell (T := 33) (vs := [.int .i64 k, .int .i64 0, .int .i64 0]) o5 1 (.int .i64 jj)
  have o7 := Own.setCell (T := 33) (vs := [.int .i64 k, .int .i64 jj, .int .i64 0]) o6 2 (.int .i64 3)
  go_wp2
  refine bodyPost_ret (v := .agg #[.int .i64 k, .int .i64 jj, .int .i64 3]) ?_ rfl ?_
  · exact chRow (p := w.heap.size) rfl rfl o7
  · exact ⟨rfl, ((o7.drop).up 1).drop.re [3, 2, 4, 5, 0, 6, 1], ⟨k3.os.trans (k2.os.trans k1.os), k3.tape.trans (k2.tape.trans k1.tape), k3.output.trans (k2.output.trans k1.output)⟩⟩
end
end Go.Proofs.Ytkmlkpfabkhleaa

/- The choice of cifq: a leading flow gives its slot away. -/
namespace Go.Proofs.Ytkmlkpfabkhleaa
open Go.RowKit
open SP
section
variable {W w w' : World} {R : List SP} {b rp lp cp xp nb N : Nat} {num den reb : Int} {S : St} {D : List Tg} {C X : Ord} {m : List (Int × (Int × Int))}

set_option maxHeartbeats 3200000 in
set_option maxRecDepth 100000 in
theorem choose_lead {nu de cr cl : Nat} (hnu : nu < 4194304) (hde : de < 4194304) (hcr : cr < 1099511627776) (hcl : cl < 1099511627776) (hc : cntO m (selT S.L).1 = ((cr : Int), (cl : Int))) {Sp : SP} {a : Option Addr} {n c : Nat} {H : List Head} {so : Bool} (h1 : HeadsAt Sp a H) (hn : n = H.length) (hl : n ≤ 32) (hk : ∃ h ∈ H, h.f = (selT S.L).1)
    (hg : (headOf H (selT S.L).1).good = true) (hld : decide (lagO D (selT S.L).1 < 0) = true) (hkp : keepsO (nu : Int) (de : Int) (cntO m (selT S.L).1) = false) (hC : OrdOk C) (hj : 0 ≤ leastF C.el C.tg) (o : Own w (ChoPool b (nu : Int) (de : Int) rp lp cp xp nb N reb S D C X m Sp R)) :
    Calls Try.prog 35 #[.pointer (some ⟨b, 0, none⟩), .slice a n c, .bool so] w (Ret (chV ⟨(selT S.L).1, leastF C.el C.tg, 2⟩) (ChoPool b (nu : Int) (de : Int) rp lp cp xp nb N reb S D C X m Sp R) w) := by
  unfold chV
  dsimp only
  have c2 := o.cell 2
  have hlt := o.celLt
  obtain ⟨i, hi, hix⟩ := headOf_idx hk
  have hin : i < n := by have := (List.getElem?_eq_some_iff.1 hi).1; omega
  have HI := Lib.hid hi
  have Hn := Lib.hid hn
  have oA := o.alloc (.cells #[.int .i64 0, .int .i64 0, .int .i64 0] 33)
  have hsel := sfqSelect_spec (oA.up 2)
  have HLD := Lib.hid hld
  have HKP := Lib.hid hkp
  have HC := Lib.hid hc
  obtain ⟨K, hK⟩ : ∃ K, headOf H (selT S.L).1 = K := ⟨_, rfl⟩
  rw [hK] at hg HI
  generalize (selT S.L).1 = k at *
  generalize (selT S.L).2 = e at *
  clear hi hn hk hld hK hkp hc
  go_enter Try.func35, Try.ntmps35
  go_wp2_with fail
  refine hsel.mono ?_
  rintro e1 w1 ⟨rfl, o1, k1⟩
  clear hsel
  have hidx := cqIndex_spec (f := k) (c := c) h1 Hn.out (by omega) (o1.up 7)
  rw [hix] at hidx
  go_wp2_with fail
  refine hidx.mono ?_
  rintro e2 w2 ⟨rfl, o2, k2⟩
  clear hidx hix
  obtain ⟨g, rfl, d0, d1, d2⟩ := h1 _ _ o2 i _ HI.out
  rw [hg] at d2
  have o3 := (o2.alloc (.cells #[.int .i64 k, .int .i64 k, .int .i64 1] 33)).re [4, 5, 0, 1, 2, 3]
  have hlead := leading_spec k o3
  rw [HLD.out] at hlead
  go_wp2_with fail
  refine hlead.mono ?_
  rintro e3 w3 ⟨rfl, o4, k3⟩
  clear hlead
  have hkeep := keeps_spec k hnu hde hcr hcl HC.out (o4.re [0, 6, 1, 2, 3, 4, 5])
  rw [HKP.out] at hkeep
  go_wp2_with fail
  refine hkeep.mono ?_
  rintro e4 w4 ⟨rfl, o4', k4⟩
  clear hkeep
  have hsel2 := select_spec hC.key hC.len (o4'.up 7)
  have x4 := o4'.cell 4
  have hsv : selV C.el C.tg = .tuple #[.int .i64 (leastF C.el C.tg), .int .i64 0] := by unfold selV; rw [if_neg (by omega)]
  rw [hsv] at hsel2
  clear hsv
  generalize leastF C.el C.tg = jj at *
  go_wp2_with fail
  refine hsel2.mono ?_
  rintro e5 w5 ⟨rfl, o8, k5⟩
  clear hsel2
  have y0 := Own.cell (T := 33) (vs := [.int .i64 k, .int .i64 k, .int .i64 1]) (o8.up 4) 0
  have y1 := Own.cell (T := 33) (vs := [.int .i64 k, .int .i64 k, .int .i64 1]) (o8.up 4) 1
  have y2 := Own.cell (T := 33) (vs := [.int .i64 k, .int .i64 k, .int .i64 1]) (o8.up 4) 2
  have z0 := Own.cell (T := 33) (vs := [.int .i64 0, .int .i64 0, .int .i64 0]) (o8.up 7) 0
  have z1 := Own.cell (T := 33) (vs := [.int .i64 0, .int .i64 0, .int .i64 0]) (o8.up 7) 1
  have z2 := Own.cell (T := 33) (vs := [.int .i64 0, .int .i64 0, .int .i64 0]) (o8.up 7) 2
  have zf := Own.frozen (T := 33) (vs := [.int .i64 0, .int .i64 0, .int .i64 0]) (o8.up 7)
  have zl := Own.celLt (T := 33) (vs := [.int .i64 0, .int .i64 0, .int .i64 0]) (o8.up 7)
  have o5 := Own.setCell (T := 33) (vs := [.int .i64 0, .int .i64 0, .int .i64 0]) (o8.up 7) 0 (.int .i64 k)
  have o6 := Own.setCell (T := 33) (vs := [.int .i64 k, .int .i64 0, .int .i64 0]) o5 1 (.int .i64 jj)
  have o7 := Own.setCell (T := 33) (vs := [.int .i64 k, .int .i64 jj, .int .i64 0]) o6 2 (.int .i64 2)
  go_wp2
  refine bodyPost_ret (v := .agg #[.int .i64 k, .int .i64 jj, .int .i64 2]) ?_ rfl ?_
  · exact chRow (p := w.heap.size) rfl rfl o7
  · exact ⟨rfl, ((o7.drop).up 4).drop.re [1, 5, 3, 2, 0, 6, 4], ⟨k5.os.trans (k4.os.trans (k3.os.trans (k2.os.trans k1.os))), k5.tape.trans (k4.tape.trans (k3.tape.trans (k2.tape.trans k1.tape))), k5.output.trans (k4.output.trans (k3.output.trans (k2.output.trans k1.output)))⟩⟩
end
end Go.Proofs.Ytkmlkpfabkhleaa
