/- The error-free reference, plain: the laws of fairness and of rebasing. -/
import Derived.Test.YtnandakoigmknaaSfqQ
namespace Go.Proofs.Ytnandakoigmknaa
open Go.RowKit
open SP

section
variable {S : St} {L : List Tg}
theorem fget_cons (a : Tg) (L : List Tg) (k : Int) : fget (a :: L) k = if a.f = k then some a else fget L k := by
  unfold fget
  rw [List.find?_cons]
  by_cases h : a.f = k
  · have : (a.f == k) = true := by simpa using h
    rw [this, if_pos h]
  · have : (a.f == k) = false := by simpa using h
    rw [this, if_neg h]
theorem fget_insT (x : Tg) (k : Int) : ∀ L : List Tg, fget L x.f = none → fget (insT x L) k = if k = x.f then some x else fget L k
  | [], _ => by
    show fget [x] k = _
    rw [fget_cons]
    by_cases h : k = x.f
    · rw [if_pos h.symm, if_pos h]
    · rw [if_neg (Ne.symm h), if_neg h]
  | a :: L, hn => by
    have hne := fget_none.1 hn a (by simp)
    have hn' : fget L x.f = none := fget_none.2 fun t ht => fget_none.1 hn t (by simp [ht])
    unfold insT
    split
    · rw [fget_cons, fget_insT x k L hn', fget_cons]
      by_cases h : k = x.f
      · rw [if_pos h, if_pos h, if_neg (by rw [h]; exact hne)]
      · rw [if_neg h, if_neg h]
    · rw [fget_cons]
      by_cases h : k = x.f
      · rw [if_pos h.symm, if_pos h]
      · rw [if_neg (Ne.symm h), if_neg h]
theorem fget_delT (g k : Int) : ∀ L : List Tg, fget (delT g L) k = if k = g then none else fget L k
  | [] => by show none = _; split <;> rfl
  | a :: L => by
    unfold delT
    rw [List.filter_cons]
    have ih := fget_delT g k L
    unfold delT at ih
    by_cases h : a.f = g
    · have : (a.f == g) = true := by simpa using h
      rw [this]
      simp only [Bool.not_true, Bool.false_eq_true, if_false]
      rw [ih, fget_cons]
      by_cases hk : k = g
      · rw [if_pos hk, if_pos hk]
      · rw [if_neg hk, if_neg hk, if_neg (by omega)]
    · have : (a.f == g) = false := by simpa using h
      rw [this]
      simp only [Bool.not_false, if_true]
      rw [fget_cons, ih, fget_cons]
      by_cases hk : k = g
      · rw [if_pos hk, if_pos hk, if_neg (by omega)]
      · rw [if_neg hk, if_neg hk]
theorem fget_setT (x : Tg) (k : Int) : ∀ L : List Tg, fget (setT x L) k = if k = x.f then (fget L k).map (fun _ => x) else fget L k
  | [] => by show none = _; split <;> rfl
  | a :: L => by
    have ih := fget_setT x k L
    unfold setT at *
    rw [List.map_cons, fget_cons, ih, fget_cons]
    by_cases hk : k = x.f
    · subst hk
      by_cases ha : a.f = x.f
      · simp [ha]
      · simp [ha]
    · by_cases ha : a.f = x.f
      · simp only [if_pos ha, if_neg hk]
        rw [if_neg (Ne.symm hk), if_neg (by omega)]
      · simp only [if_neg ha, if_neg hk]
theorem fget_map (g : Tg → Tg) (hg : ∀ t, (g t).f = t.f) (k : Int) : ∀ L : List Tg, fget (L.map g) k = (fget L k).map g
  | [] => rfl
  | a :: L => by
    rw [List.map_cons, fget_cons, fget_cons, hg, fget_map g hg k L]
    split <;> rfl

/-! ### SfqFair -/
/-- Flow f has had ba bytes of service, at weight wa. -/
def FA (f wa ba : Int) (S : St) : Prop := ∃ t, fget S.L f = some t ∧ t.w = wa ∧ t.s ≤ S.tm + 4096 * unit1 wa ∧ t.s + S.aw = ba * unit1 wa

theorem FA.join {f wa ba g w : Int} (h : FA f wa ba S) (hok : StOk S) : FA f wa ba (joinR S g w).2 := by
  unfold joinR
  split
  · rename_i he
    have hn := (hok.join he).2.1
    obtain ⟨t, h1, h2, h3, h4⟩ := h
    refine ⟨t, ?_, h2, h3, h4⟩
    show fget (insT ⟨g, w, max S.tm (S.old g)⟩ S.L) f = _
    rw [fget_insT _ _ _ hn, if_neg]
    · exact h1
    · intro e
      have : fget S.L g = some t := by rw [← h1]; congr 1; exact e.symm
      rw [hn] at this
      cases this
  · exact h
theorem FA.leave {f wa ba g : Int} (h : FA f wa ba S) (hne : f ≠ g) : FA f wa ba (leaveR S g).2 := by
  unfold leaveR
  split
  · exact h
  · rename_i u hu
    obtain ⟨t, h1, h2, h3, h4⟩ := h
    have h5 : fget (delT g S.L) f = some t := by rw [fget_delT, if_neg hne]; exact h1
    show FA f wa ba (leaveS S g u.s)
    unfold leaveS
    rw [if_neg (by intro e; rw [e] at h5; cases h5)]
    exact ⟨t, h5, h2, h3, h4⟩
theorem FA.sub {f wa ba by_ : Int} (h : FA f wa ba S) : FA f wa ba (subS S by_) := by
  obtain ⟨t, h1, h2, h3, h4⟩ := h
  refine ⟨⟨t.f, t.w, t.s - by_⟩, ?_, h2, ?_, ?_⟩
  · show fget (S.L.map _) f = _
    rw [fget_map (fun t : Tg => ⟨t.f, t.w, t.s - by_⟩) (fun _ => rfl), h1]
    rfl
  · show t.s - by_ ≤ S.tm - by_ + _; omega
  · show t.s - by_ + (S.aw + by_) = _; omega
theorem FA.reb {f wa ba r : Int} (h : FA f wa ba S) : FA f wa ba (rebS r S) := by
  unfold rebS
  split
  · exact h
  · exact h.sub
theorem FA.ch {f wa ba len : Int} {i : Nat} (h : FA f wa ba S) (hT : TInv i S) (hne : S.L ≠ []) (hl : 0 ≤ len ∧ len ≤ 4096) :
    FA f wa (if (lst S.L).f = f then ba + len else ba) (chS S (lst S.L) ((lst S.L).s + cst len (lst S.L).w)) := by
  have hm := lst_mem hne
  obtain ⟨t, h1, h2, h3, h4⟩ := h
  have ha := hT.act _ hm
  have hr := hT.ok.ok.rng _ hm
  have hmx : max S.tm (lst S.L).s = (lst S.L).s := by omega
  have hfm := fget_mem hT.ok.ok hm
  generalize lst S.L = x at *
  by_cases hf : x.f = f
  · rw [if_pos hf]
    subst hf
    have hxt : x = t := by rw [hfm] at h1; simpa using h1
    subst hxt
    subst h2
    have hu := unit1_range hr.2.2.1 hr.2.2.2.1
    have hc : cst len x.w = len * unit1 x.w := rfl
    refine ⟨⟨x.f, x.w, x.s + cst len x.w⟩, ?_, rfl, ?_, ?_⟩
    · show fget (setT ⟨x.f, x.w, _⟩ S.L) x.f = _
      rw [fget_setT, if_pos rfl, h1]; rfl
    · show x.s + cst len x.w ≤ max S.tm x.s + _
      rw [hmx, hc]
      have : len * unit1 x.w ≤ 4096 * unit1 x.w := Int.mul_le_mul_of_nonneg_right hl.2 (by omega)
      omega
    · show x.s + cst len x.w + S.aw = _
      rw [hc, Int.add_mul]; omega
  · rw [if_neg hf]
    refine ⟨t, ?_, h2, ?_, h4⟩
    · show fget (setT ⟨x.f, x.w, _⟩ S.L) f = _
      rw [fget_setT, if_neg (Ne.symm hf)]; exact h1
    · show t.s ≤ max S.tm x.s + _; omega

/-! ### SfqRebase -/
def sh (d : Int) (t : Tg) : Tg := ⟨t.f, t.w, t.s + d⟩
theorem insT_map (d : Int) (x : Tg) : ∀ L : List Tg, insT (sh d x) (L.map (sh d)) = (insT x L).map (sh d)
  | [] => rfl
  | a :: L => by
    rw [List.map_cons]
    unfold insT
    by_cases h : a.f < x.f
    · rw [if_pos (show (sh d a).f < (sh d x).f from h), if_pos h, List.map_cons, insT_map d x L]
    · rw [if_neg (show ¬ (sh d a).f < (sh d x).f from h), if_neg h, List.map_cons, List.map_cons]
theorem delT_map (d k : Int) (L : List Tg) : delT k (L.map (sh d)) = (delT k L).map (sh d) := by
  unfold delT
  rw [List.filter_map]; rfl
theorem setT_map (d : Int) (x : Tg) (L : List Tg) : setT (sh d x) (L.map (sh d)) = (setT x L).map (sh d) := by
  unfold setT
  rw [List.map_map, List.map_map]
  refine List.map_congr_left fun t _ => ?_
  show (if t.f = x.f then sh d x else sh d t) = sh d (if t.f = x.f then x else t)
  split <;> rfl
theorem leastG_map (d : Int) (L : List Tg) : ∀ (l : List Tg) (i best : Nat), i + l.length = L.length → best < L.length → leastG (L.map (sh d)) (l.map (sh d)) i best = leastG L l i best
  | [], _, _, _, _ => rfl
  | t :: l, i, best, hl, hb => by
    rw [List.map_cons]
    unfold leastG
    have e1 : ((L.map (sh d)).getD best ⟨0, 0, 0⟩).s = (L.getD best ⟨0, 0, 0⟩).s + d := by
      rw [List.getD_eq_getElem?_getD, List.getElem?_map, List.getD_eq_getElem?_getD, List.getElem?_eq_getElem hb]
      rfl
    rw [e1]
    have e2 : ((sh d t).s < (L.getD best ⟨0, 0, 0⟩).s + d) ↔ (t.s < (L.getD best ⟨0, 0, 0⟩).s) := by show t.s + d < _ ↔ _; omega
    simp only [e2]
    rw [List.length_cons] at hl
    refine leastG_map d L l (i + 1) _ (by omega) ?_
    split <;> omega
theorem leastN_map (d : Int) (L : List Tg) : leastN (L.map (sh d)) = leastN L := by
  unfold leastN
  cases L with
  | nil => rfl
  | cons a L => exact leastG_map d (a :: L) (a :: L) 0 0 (by simp) (by simp)
theorem lst_map (d : Int) {L : List Tg} (h : L ≠ []) : lst (L.map (sh d)) = sh d (lst L) := by
  unfold lst
  rw [leastN_map, List.getD_eq_getElem?_getD, List.getElem?_map, List.getD_eq_getElem?_getD, List.getElem?_eq_getElem (leastN_lt h)]
  rfl

structure PInv (i : Nat) (d : Int) (A B : St) : Prop where
  a : TInv i A
  b : TInv i B
  L : B.L = A.L.map (sh d)
  tm : B.tm = A.tm + d
  old : ∀ f, max (B.old f) B.tm = max (A.old f) A.tm + d

theorem PInv.start : PInv 0 0 ⟨[], fun _ => 0, 0, 0⟩ ⟨[], fun _ => 0, 0, 0⟩ := ⟨TInv.start, TInv.start, rfl, rfl, fun f => by simp⟩
section
variable {i : Nat} {d : Int} {A B : St}
theorem PInv.next (h : PInv i d A B) : PInv (i + 1) d A B := ⟨h.a.next, h.b.next, h.L, h.tm, h.old⟩
theorem PInv.get (h : PInv i d A B) (k : Int) : fget B.L k = (fget A.L k).map (sh d) := by rw [h.L]; exact fget_map (sh d) (fun _ => rfl) k A.L
theorem PInv.nil (h : PInv i d A B) : B.L = [] ↔ A.L = [] := by rw [h.L]; simp
theorem PInv.joinE (h : PInv i d A B) (f w : Int) : joinE B f w = joinE A f w := by
  unfold Go.Proofs.Ytnandakoigmknaa.joinE
  rw [h.get]; simp
theorem PInv.join (h : PInv i d A B) (f w : Int) : (joinR B f w).1 = (joinR A f w).1 ∧ PInv i d (joinR A f w).2 (joinR B f w).2 := by
  refine ⟨h.joinE f w, ?_⟩
  have ha := h.a.join f w
  have hb := h.b.join f w
  unfold joinR at *
  rw [h.joinE] at *
  split
  · rename_i he
    simp only [if_pos he] at ha hb
    have hm := h.old f
    have ht := h.tm
    have tb := h.b.ok.tm
    have ta := h.a.ok.tm
    refine ⟨ha, hb, ?_, h.tm, fun g => ?_⟩
    · show insT ⟨f, w, max B.tm (B.old f)⟩ B.L = (insT ⟨f, w, max A.tm (A.old f)⟩ A.L).map (sh d)
      rw [← insT_map, h.L]
      congr 1
      show Tg.mk _ _ _ = Tg.mk f w (max A.tm (A.old f) + d)
      congr 1
      omega
    · have := h.old g
      show max (if g = f then 0 else B.old g) B.tm = max (if g = f then 0 else A.old g) A.tm + d
      split <;> omega
  · exact h
theorem PInv.leave (h : PInv i d A B) (f : Int) : (leaveR B f).1 = (leaveR A f).1 ∧ ∃ d', PInv i d' (leaveR A f).2 (leaveR B f).2 := by
  have ha := h.a.leave f
  have hb := h.b.leave f
  unfold leaveR at *
  rw [h.get] at *
  cases hf : fget A.L f with
  | none => exact ⟨rfl, d, h⟩
  | some t =>
    rw [hf] at ha hb
    refine ⟨rfl, ?_⟩
    simp only [Option.map_some] at ha hb ⊢
    have hd : delT f B.L = (delT f A.L).map (sh d) := by rw [h.L, delT_map]
    unfold leaveS at *
    rw [hd] at hb ⊢
    by_cases he : delT f A.L = []
    · rw [if_pos he] at ha ⊢
      rw [he] at hb ⊢
      simp only [List.map_nil, if_true] at hb ⊢
      exact ⟨0, ha, hb, rfl, rfl, fun g => by simp⟩
    · rw [if_neg he] at ha ⊢
      have he' : (delT f A.L).map (sh d) ≠ [] := by simpa using he
      rw [if_neg he'] at hb ⊢
      refine ⟨d, ha, hb, rfl, h.tm, fun g => ?_⟩
      have := h.old g
      have ht := h.tm
      show max (if g = f then t.s + d else B.old g) B.tm = max (if g = f then t.s else A.old g) A.tm + d
      split <;> omega
theorem PInv.sel (h : PInv i d A B) : selT B.L = selT A.L := by
  unfold selT
  by_cases he : A.L = []
  · rw [if_pos he, if_pos (h.nil.2 he)]
  · rw [if_neg he, if_neg (fun e => he (h.nil.1 e)), h.L, lst_map d he]
    rfl
theorem PInv.subA (h : PInv i d A B) (hne : A.L ≠ []) : PInv i (d + A.tm) (subS A A.tm) B := by
  refine ⟨h.a.sub hne, h.b, ?_, ?_, fun f => ?_⟩
  · show B.L = (A.L.map _).map _
    rw [h.L, List.map_map]
    refine List.map_congr_left fun t _ => ?_
    show Tg.mk _ _ _ = Tg.mk _ _ _
    congr 1
    show t.s + d = t.s - A.tm + (d + A.tm); omega
  · have := h.tm; show B.tm = A.tm - A.tm + (d + A.tm); omega
  · have h1 := h.old f
    have h2 := h.tm
    have h3 := h.a.ok.tm
    show max (B.old f) B.tm = max (max (A.old f - A.tm) 0) (A.tm - A.tm) + (d + A.tm)
    omega
theorem PInv.subB (h : PInv i d A B) (hne : B.L ≠ []) : PInv i (d - B.tm) A (subS B B.tm) := by
  refine ⟨h.a, h.b.sub hne, ?_, ?_, fun f => ?_⟩
  · show B.L.map _ = A.L.map _
    rw [h.L, List.map_map]
    refine List.map_congr_left fun t _ => ?_
    show Tg.mk _ _ _ = Tg.mk _ _ _
    congr 1
    show t.s + d - B.tm = t.s + (d - B.tm); omega
  · have := h.tm; show B.tm - B.tm = A.tm + (d - B.tm); omega
  · have h1 := h.old f
    have h2 := h.tm
    have h3 := h.b.ok.tm
    show max (max (B.old f - B.tm) 0) (B.tm - B.tm) = max (A.old f) A.tm + (d - B.tm)
    omega
theorem PInv.reb (h : PInv i d A B) (hne : A.L ≠ []) (ra rb : Int) : ∃ d', PInv i d' (rebS ra A) (rebS rb B) := by
  have hnb : B.L ≠ [] := fun e => hne (h.nil.1 e)
  have h1 : ∃ d', PInv i d' (rebS ra A) B := by
    unfold rebS
    split
    · exact ⟨d, h⟩
    · rw [h.a.by_ hne]; exact ⟨_, h.subA hne⟩
  obtain ⟨d', h1⟩ := h1
  unfold rebS at *
  by_cases hc : byS B < rb
  · simp only [if_pos hc]; exact ⟨d', h1⟩
  · simp only [if_neg hc]
    rw [h.b.by_ hnb]
    exact ⟨_, h1.subB hnb⟩
theorem PInv.charge (h : PInv i d A B) (hi : i ≤ 300) (ra rb : Int) {len : Int} (h1 : 1 ≤ len) (h2 : len ≤ 4096) :
    (chargeR rb B (selT A.L).1 len).1 = (chargeR ra A (selT A.L).1 len).1 ∧ ∃ d', PInv (i + 1) d' (chargeR ra A (selT A.L).1 len).2 (chargeR rb B (selT A.L).1 len).2 := by
  by_cases he : A.L = []
  · have hb := h.nil.2 he
    have ea : chargeR ra A (selT A.L).1 len = (6, A) := by unfold chargeR; rw [show fget A.L (selT A.L).1 = none from by rw [fget_none, he]; simp]
    have eb : chargeR rb B (selT A.L).1 len = (6, B) := by unfold chargeR; rw [show fget B.L (selT A.L).1 = none from by rw [fget_none, hb]; simp]
    rw [ea, eb]
    exact ⟨rfl, d, h.next⟩
  · have hbe : B.L ≠ [] := fun e => he (h.nil.1 e)
    have es : (selT A.L).1 = (lst A.L).f := by unfold selT; rw [if_neg he]
    have eb : lst B.L = sh d (lst A.L) := by rw [h.L]; exact lst_map d he
    obtain ⟨ca, ta⟩ := h.a.charge hi he h1 h2 ra
    obtain ⟨cb, tb⟩ := h.b.charge hi hbe h1 h2 rb
    have esb : (lst B.L).f = (lst A.L).f := by rw [eb]; rfl
    rw [es, ca]
    rw [esb] at cb
    rw [cb]
    refine ⟨rfl, ?_⟩
    have xa := (h.a.ch hi he h1 h2).2
    have xb := (h.b.ch hi hbe h1 h2).2
    refine PInv.reb (d := d) ⟨xa.1, xb.1, ?_, ?_, fun f => ?_⟩ (setT_ne he) ra rb
    · show setT ⟨(lst B.L).f, (lst B.L).w, (lst B.L).s + cst len (lst B.L).w⟩ B.L = (setT ⟨(lst A.L).f, (lst A.L).w, (lst A.L).s + cst len (lst A.L).w⟩ A.L).map (sh d)
      rw [← setT_map, h.L, ← h.L, eb]
      congr 1
      show Tg.mk _ _ _ = Tg.mk _ _ _
      congr 1
      show (lst A.L).s + d + cst len (lst A.L).w = (lst A.L).s + cst len (lst A.L).w + d
      omega
    · have e1 := xa.2
      have e2 := xb.2
      show max B.tm (lst B.L).s = max A.tm (lst A.L).s + d
      rw [e1, e2, eb]; rfl
    · have e0 := h.old f
      have e1 := h.tm
      have e2 : (lst B.L).s = (lst A.L).s + d := by rw [eb]; rfl
      show max (B.old f) (max B.tm (lst B.L).s) = max (A.old f) (max A.tm (lst A.L).s) + d
      omega
end
end
end Go.Proofs.Ytnandakoigmknaa
