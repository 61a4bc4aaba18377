/- The reference of chapter 13: SetWeight, lower. -/
import Derived.Test.YtnandakoigmknaaR12d
import Derived.Deep.RegionHeld3
namespace Go.Proofs.Ytnandakoigmknaa
open Go.RowKit
open SP
theorem flat_set {α : Type} {g : α → List Value} {sz : Nat} (hg : ∀ x, (g x).length = sz) : ∀ (L : List α) (i j : Nat) (x x' : α) (v : Value), L[i]? = some x → j < sz → g x' = (g x).set j v → flat g (L.set i x') = (flat g L).set (i * sz + j) v
  | [], i, j, x, x', v, h, _, _ => by simp at h
  | y :: L, 0, j, x, x', v, h, hj, he => by
    obtain rfl : y = x := by simpa using h
    show g x' ++ flat g L = (g y ++ flat g L).set (0 * sz + j) v
    rw [Nat.zero_mul, Nat.zero_add, List.set_append_left _ _ (by rw [hg]; exact hj), he]
  | y :: L, i + 1, j, x, x', v, h, hj, he => by
    have ih := flat_set hg L i j x x' v (by simpa using h) hj he
    show g y ++ flat g (L.set i x') = (g y ++ flat g L).set ((i + 1) * sz + j) v
    have e : (i + 1) * sz + j = sz + (i * sz + j) := by rw [Nat.add_mul]; omega
    rw [e, List.set_append_right _ _ (by rw [hg]; omega), hg, Nat.add_sub_cancel_left, ih]
theorem setT_at {L : List Tg} (h : LOk L) {i : Nat} {t x : Tg} (ht : L[i]? = some t) (hx : x.f = t.f) : L.set i x = setT x L := by
  apply List.ext_getElem?
  intro j
  unfold setT
  rw [List.getElem?_set, List.getElem?_map]
  by_cases hj : i = j
  · subst hj
    rw [if_pos rfl, if_pos (List.getElem?_eq_some_iff.1 ht).1, ht]
    simp [hx]
  · rw [if_neg hj]
    cases hu : L[j]? with
    | none => rfl
    | some u =>
      have hne : u.f ≠ x.f := fun he => by
        obtain ⟨h1, e1⟩ := List.getElem?_eq_some_iff.1 ht
        obtain ⟨h2, e2⟩ := List.getElem?_eq_some_iff.1 hu
        have hp := List.pairwise_iff_getElem.1 h.asc
        rcases Nat.lt_or_gt_of_ne hj with h3 | h3
        · have := hp i j h1 h2 h3; rw [e1, e2] at this; omega
        · have := hp j i h2 h1 h3; rw [e1, e2] at this; omega
      simp [hne]
section
variable {P : SP} {W w w' : World} {R : List SP} {b : Nat} {at_ now aw : Int} {L O : List Tg}
/-- A list of the state's own goes to the pool. -/
theorem refT_newL {a9 a2 : Option Addr} {n9 c9 c2 : Nat} {L2 : List Tg} (hn : n9 = L2.length) (hP2 : (TagsAt P a2 O ∧ SlOk a2 c2) ∧ O.length ≤ c2)
    (o : Own w (slc 64 3 a9 n9 c9 (flat tagC L2) :: cel b 103 [.int .i64 at_, .slice a9 n9 c9, .slice a2 O.length c2, .int .i64 now, .int .i64 aw] :: P :: R)) :
    Own w (RefT (st [slc 64 3 a9 n9 c9 (flat tagC L2), P]) b at_ L2 O now aw :: st [slc 64 3 a9 n9 c9 (flat tagC L2), P] :: R) := by
  subst hn
  have h1 := slOk_slc o
  have n1 := o.slc_len.2.1
  have oC : Own w (st [slc 64 3 a9 L2.length c9 (flat tagC L2), P] :: _) := Own.st.2 (o.re [0, 2, 1])
  exact RefT.iff.2 ⟨a9, c9, a2, c2, ⟨⟨(tagsAt_slc _ _ _ _ rfl).new, h1⟩, n1, ⟨PExtT.add _ _ _ _ hP2.1.1, hP2.1.2⟩, hP2.2⟩, oC.swap⟩
def SetWT (b : Nat) (at_ : Int) (L O : List Tg) (now aw : Int) (P : SP) (R : List SP) (w : World) (er : Int) (e : Ending) (w' : World) : Prop :=
  ∃ P', PExtT P P' ∧ Ret (.int .i64 er) (RefT P' b at_ L O now aw :: P' :: R) w e w'
set_option maxHeartbeats 3200000 in
set_option maxRecDepth 100000 in
theorem setWT_err (f wt : Int) (hL : L.length ≤ 1000) (he : fget L f = none ∨ ¬ (1 ≤ wt ∧ wt ≤ 16)) (o : Own w (RefT P b at_ L O now aw :: P :: R)) :
    Calls Try.prog 63 #[.pointer (some ⟨b, 0, none⟩), .int .i64 f, .int .i64 wt] w (IsRet (.int .i64 (if fget L f = none then 6 else 1)) w) := by
  have hat := index_spec f hL o
  have hgw := goodW_spec wt w
  cases hf : fget L f with
  | none =>
    rw [idxT_none 0 L hf] at hat
    rw [if_pos rfl]
    clear he hf
    go_enter Try.func63, Try.ntmps63
    go_wp2_with fail
    refine hat.mono ?_
    rintro e1 w1 ⟨rfl, rfl⟩
    go_wp2
    go_ret
    exact ⟨rfl, rfl⟩
  | some t =>
    obtain ⟨i, hi, hai⟩ := idxT_some 0 L hf
    rw [hai, Nat.zero_add] at hat
    rw [if_neg (by simp)]
    have hd : decide (1 ≤ wt ∧ wt ≤ 16) = false := by
      rcases he with he | he
      · rw [hf] at he; cases he
      · simp only [decide_eq_false_iff_not]; exact he
    rw [hd] at hgw
    clear he hd hf hai hi
    go_enter Try.func63, Try.ntmps63
    go_wp2_with fail
    refine hat.mono ?_
    rintro e1 w1 ⟨rfl, rfl⟩
    go_wp2_with fail
    refine hgw.mono ?_
    rintro e2 w2 ⟨rfl, rfl⟩
    go_wp2
    go_ret
    exact ⟨rfl, rfl⟩
set_option maxHeartbeats 3200000 in
set_option maxRecDepth 100000 in
theorem setWT_ok (f wt : Int) {t : Tg} (hok : LOk L) (hw : 1 ≤ wt ∧ wt ≤ 16) (hf : fget L f = some t) (o : Own w (RefT P b at_ L O now aw :: P :: R)) :
    Calls Try.prog 63 #[.pointer (some ⟨b, 0, none⟩), .int .i64 f, .int .i64 wt] w (SetWT b at_ (setT ⟨t.f, wt, t.s⟩ L) O now aw P R w 0) := by
  have hL := hok.len
  have hat := index_spec f (by omega) o
  have hgw := goodW_spec wt w
  have hd : decide (1 ≤ wt ∧ wt ≤ 16) = true := by simp; exact hw
  rw [hd] at hgw
  obtain ⟨i, hi, hai⟩ := idxT_some 0 L hf
  rw [hai, Nat.zero_add] at hat
  have hil := (List.getElem?_eq_some_iff.1 hi).1
  have hset := setT_at (x := ⟨t.f, wt, t.s⟩) hok hi rfl
  have hfs := flat_set tagC_len L i 1 t ⟨t.f, wt, t.s⟩ (.int .i64 wt) hi (by omega) rfl
  have HS := Lib.hid hset
  have HF := Lib.hid hfs
  obtain ⟨a, c, a2, c2, ⟨⟨hP, hs⟩, hc, hP2⟩, o1⟩ := RefT.iff.1 o
  have c1 := o1.cell 1
  have cl := o1.celLt
  have cf := o1.frozen
  have oZ := slc_zero (e := 64) (size := 3) ((o1.alloc (.cells #[] 64)))
  have hsrc := tags_src (c := c) hP rfl (oZ.up 2)
  have hfg := flat_get tagC_len L i 1 t hi (by omega)
  have HFG := Lib.hid hfg
  clear hd hw hf hai hi hset hfs hfg
  go_enter Try.func63, Try.ntmps63
  go_wp2_with fail
  refine hat.mono ?_
  rintro e1 w1 ⟨rfl, rfl⟩
  go_wp2_with fail
  refine hgw.mono ?_
  rintro e2 w2 ⟨rfl, rfl⟩
  go_wp2_with (at_builtin; refine wpList_append_src rfl _ _ rfl Try.tagT rfl oZ rfl hsrc (by unfold maxLen; omega) (by omega) ?k1)
  case k1 =>
  intro a5 c5 w5 o5 k5
  have o5z := o5
  have q1 := (o5z.up 1).cell 1
  have ql := (o5z.up 1).celLt
  have qf := (o5z.up 1).frozen
  have oS := ((o5z.up 1).setCell 1 (.slice a5 L.length c5))
  have s1 := oS.cell 1
  rcases Own.slc.1 (oS.up 1) with ⟨_, hz, _⟩ | ⟨g, sp, rfl, _, hcm, _, _, _⟩
  · omega
  · obtain ⟨g', hg', hc', hf', hl'⟩ := (oS.up 1).slc_cell (by omega)
    cases hg'
    have d1 := hc' (i * 3 + 1) _ HFG.out
    have df := hf'
    have o7 := (oS.up 1).slc_set (i * 3 + 1) (.int .i64 wt) (by rw [flat_length tagC_len]; omega)
    rw [← HF.out, HS.out] at o7
    have hlen : L.length = (setT ⟨t.f, wt, t.s⟩ L).length := by rw [← HS.out, List.length_set]
    have oE := refT_newL (L2 := setT ⟨t.f, wt, t.s⟩ L) hlen hP2 o7
    clear hlen
    go_wp2
    go_ret
    exact ⟨_, PExtT.add _ _, rfl, oE, Calm.trans ⟨k5.os, k5.tape, k5.output⟩ ⟨rfl, rfl, rfl⟩⟩
end
end Go.Proofs.Ytnandakoigmknaa
