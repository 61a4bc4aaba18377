/- Texts that the law rests on, put together by a program. -/
import Derived.Test.YtjpahfkchhnpoaaGreatCifqScriptE
import Derived.Test.YtjpahfkchhnpoaaGreatCifqScriptC
import Derived.Test.YtjpahfkchhnpoaaGreatCifqScriptI
import Derived.Test.YtjpahfkchhnpoaaGreatCifqScriptD
import Derived.Deep.RegionHeld3
import Derived.Deep.DeepCutAuto
import Derived.Deep.CutBlock
import Derived.StillTailTactics
/- Cifq, plain: how long a lagging flow waits at most. -/
namespace Go.Proofs.YtjpahfkchhnpoaaGreat
open Go.RowKit
open SP

/-! ### Turns: how many services may come before a flow's own -/
theorem sumI_mono {α : Type} {g h : α → Int} : ∀ {l : List α}, (∀ x ∈ l, g x ≤ h x) → sumI (l.map g) ≤ sumI (l.map h)
  | [], _ => Int.le_refl _
  | x :: l, hh => by
    have h1 := hh x (by simp)
    have h2 := sumI_mono (l := l) fun y hy => hh y (by simp [hy])
    rw [List.map_cons, List.map_cons, sumI_cons, sumI_cons]; omega
theorem sumI_less {α : Type} {g h : α → Int} : ∀ {l : List α}, (∀ x ∈ l, g x ≤ h x) → (∃ x ∈ l, g x + 1 ≤ h x) → sumI (l.map g) + 1 ≤ sumI (l.map h)
  | [], _, he => by obtain ⟨x, hx, _⟩ := he; cases hx
  | x :: l, hh, he => by
    have h1 := hh x (by simp)
    have h2 := sumI_mono (l := l) fun y hy => hh y (by simp [hy])
    rw [List.map_cons, List.map_cons, sumI_cons, sumI_cons]
    obtain ⟨y, hy, hl⟩ := he
    rcases List.mem_cons.1 hy with rfl | hy
    · omega
    · have := sumI_less (l := l) (fun y hy => hh y (by simp [hy])) ⟨y, hy, hl⟩
      omega
theorem sumI_nn {l : List Int} (h : ∀ x ∈ l, 0 ≤ x) : 0 ≤ sumI l := by
  induction l with
  | nil => exact Int.le_refl _
  | cons x l ih =>
    have h1 := h x (by simp)
    have h2 := ih fun y hy => h y (by simp [hy])
    rw [sumI_cons]; omega

theorem cst_pos {sz w : Int} (hs : 1 ≤ sz) (h1 : 1 ≤ w) (h2 : w ≤ 16) : 0 < cst sz w := by
  have := unit1_range h1 h2
  unfold cst
  exact Int.mul_pos (by omega) (by omega)
def trn1 (sz : Int) (v : Int → Int) (l : Int) (p : Int × Int) : Int := if p.1 = l then 0 else if v l < v p.1 then 0 else (v l - v p.1) / cst sz p.2 + 1
def trn (sz : Int) (P : List (Int × Int)) (v : Int → Int) (l : Int) : Int := 1 + sumI (P.map (trn1 sz v l))
def turnT (P : List (Int × Int)) (l w : Int) : Int := 1 + sumI (P.map fun p => if p.1 = l then 0 else p.2 / w + 1)
section
variable {sz : Int} {P : List (Int × Int)} {v v' : Int → Int} {l : Int}
theorem trn1_nn (hc : ∀ p ∈ P, 0 < cst sz p.2) {p : Int × Int} (hp : p ∈ P) : 0 ≤ trn1 sz v l p := by
  unfold trn1
  split
  · exact Int.le_refl _
  · split
    · exact Int.le_refl _
    · have := Int.ediv_nonneg (show 0 ≤ v l - v p.1 by omega) (show 0 ≤ cst sz p.2 by have := hc p hp; omega)
      omega
theorem trn_pos (hc : ∀ p ∈ P, 0 < cst sz p.2) : 1 ≤ trn sz P v l := by
  unfold trn
  have := sumI_nn (l := P.map (trn1 sz v l)) fun x hx => by obtain ⟨p, hp, rfl⟩ := List.mem_map.1 hx; exact trn1_nn hc hp
  omega
theorem trn_shift {d : Int} (hl : v' l = v l - d) (h : ∀ p ∈ P, v' p.1 = v p.1 - d) : trn sz P v' l = trn sz P v l := by
  unfold trn
  congr 1
  congr 1
  refine List.map_congr_left fun p hp => ?_
  unfold trn1
  rw [hl, h p hp]
  have e : v l - d - (v p.1 - d) = v l - v p.1 := by omega
  rw [e]
  by_cases h1 : v l < v p.1
  · rw [if_pos (show v l - d < v p.1 - d by omega), if_pos h1]
  · rw [if_neg (show ¬ v l - d < v p.1 - d by omega), if_neg h1]
/-- Another flow is served: one turn fewer. -/
theorem trn_dec (hc : ∀ p ∈ P, 0 < cst sz p.2) (hl : v' l = v l) (h : ∀ p ∈ P, p.1 ≠ l → v p.1 ≤ v' p.1) {p : Int × Int} (hp : p ∈ P) (hne : p.1 ≠ l) (hv : v p.1 ≤ v l) (hs : v' p.1 = v p.1 + cst sz p.2) :
    trn sz P v' l + 1 ≤ trn sz P v l := by
  unfold trn
  have := sumI_less (l := P) (g := trn1 sz v' l) (h := trn1 sz v l) (fun q hq => ?_) ⟨p, hp, ?_⟩
  · omega
  · unfold trn1
    by_cases hql : q.1 = l
    · rw [if_pos hql, if_pos hql]; exact Int.le_refl _
    · rw [if_neg hql, if_neg hql, hl]
      have h1 := h q hq hql
      have h2 := hc q hq
      by_cases h3 : v l < v' q.1
      · rw [if_pos h3]
        split
        · exact Int.le_refl _
        · have := Int.ediv_nonneg (show 0 ≤ v l - v q.1 by omega) (show 0 ≤ cst sz q.2 by omega)
          omega
      · rw [if_neg h3, if_neg (by omega)]
        have := Int.ediv_le_ediv h2 (show v l - v' q.1 ≤ v l - v q.1 by omega)
        omega
  · unfold trn1
    have h2 := hc p hp
    rw [if_neg hne, if_neg hne, hl, hs, if_neg (show ¬ v l < v p.1 by omega)]
    by_cases h3 : v l < v p.1 + cst sz p.2
    · rw [if_pos h3]
      have := Int.ediv_nonneg (show 0 ≤ v l - v p.1 by omega) (show 0 ≤ cst sz p.2 by omega)
      omega
    · rw [if_neg h3]
      have e : v l - v p.1 = (v l - (v p.1 + cst sz p.2)) + 1 * cst sz p.2 := by omega
      rw [e, Int.add_mul_ediv_right _ _ (by omega)]
      omega
theorem unit_quot {sz w w' : Int} (hs : 1 ≤ sz) (h1 : 1 ≤ w) (h2 : w ≤ 16) (h3 : 1 ≤ w') (h4 : w' ≤ 16) : cst sz w / cst sz w' = w' / w := by
  have u := unit1_range h1 h2
  have u' := unit1_range h3 h4
  unfold cst
  rw [Int.mul_ediv_mul_of_pos _ _ (show 0 < sz by omega)]
  have e : unit1 w * w = unit1 w' * w' := by rw [unit1_mul h1 h2, unit1_mul h3 h4]
  rw [← Int.mul_ediv_mul_of_pos_left (unit1 w) (unit1 w') (show 0 < w by omega), e, Int.mul_ediv_mul_of_pos _ _ (show 0 < unit1 w' by omega)]
theorem trn_bound (hsz : 1 ≤ sz) (hP : PtOk P) {w base : Int} (hw : 1 ≤ w ∧ w ≤ 16) (hl : v l ≤ base + cst sz w) (h : ∀ p ∈ P, base ≤ v p.1) : trn sz P v l ≤ turnT P l w := by
  unfold trn turnT
  have := sumI_mono (l := P) (g := trn1 sz v l) (h := fun p => if p.1 = l then 0 else p.2 / w + 1) fun p hp => ?_
  · omega
  · have hr := hP.rng p hp
    have hb := h p hp
    have hc := cst_pos hsz hr.2.2.1 hr.2.2.2
    unfold trn1
    split
    · exact Int.le_refl _
    · split
      · have := Int.ediv_nonneg (show 0 ≤ p.2 by omega) (show 0 ≤ w by omega)
        omega
      · have := Int.ediv_le_ediv hc (show v l - v p.1 ≤ cst sz w by omega)
        rw [unit_quot hsz hw.1 hw.2 hr.2.2.1 hr.2.2.2] at this
        omega
end

/-! ### What a slot does, by lookups -/
theorem lagO_get {L : List Tg} {f : Int} {t : Tg} (h : fget L f = some t) : lagO L f = t.s := by unfold lagO; rw [h]; rfl
theorem lagO_none {L : List Tg} {f : Int} (h : fget L f = none) : lagO L f = 0 := by unfold lagO; rw [h]; rfl
theorem charge_tags {i : Nat} {S : St} (h : TInv i S) (hi : i ≤ 300) (hne : S.L ≠ []) {len : Int} (h1 : 1 ≤ len) (h2 : len ≤ 4096) (r : Int) :
    ∃ by_ : Int, (∀ f ∈ S.L.map (·.f), lagO (chargeR r S (lst S.L).f len).2.L f = (if f = (lst S.L).f then lagO S.L f + cst len (lst S.L).w else lagO S.L f) - by_) ∧
      (chargeR r S (lst S.L).f len).2.tm = (lst S.L).s - by_ ∧ ptsOf (chargeR r S (lst S.L).f len).2.L = ptsOf S.L := by
  obtain ⟨hq, _⟩ := h.charge hi hne h1 h2 r
  obtain ⟨_, hT, hmx⟩ := h.ch hi hne h1 h2
  have hby := hT.by_ (setT_ne hne)
  have hfk : fget S.L (lst S.L).f = some (lst S.L) := fget_mem h.ok.ok (lst_mem hne)
  have hset : ∀ f ∈ S.L.map (·.f), ∃ t, fget S.L f = some t ∧ fget (setT ⟨(lst S.L).f, (lst S.L).w, (lst S.L).s + cst len (lst S.L).w⟩ S.L) f = some ⟨t.f, t.w, if f = (lst S.L).f then t.s + cst len (lst S.L).w else t.s⟩ := fun f hf => by
    obtain ⟨t, ht⟩ := fget_of_f hf
    refine ⟨t, ht, ?_⟩
    rw [fget_setT]
    by_cases hk : f = (lst S.L).f
    · rw [if_pos hk, ht, if_pos hk]
      rw [hk, hfk] at ht
      cases ht; rfl
    · rw [if_neg hk, ht, if_neg hk]
  have hpt : ptsOf (setT ⟨(lst S.L).f, (lst S.L).w, (lst S.L).s + cst len (lst S.L).w⟩ S.L) = ptsOf S.L := by
    unfold setT ptsOf
    rw [List.map_map]
    refine List.map_congr_left fun t ht => ?_
    show ((if t.f = (lst S.L).f then (⟨(lst S.L).f, (lst S.L).w, (lst S.L).s + cst len (lst S.L).w⟩ : Tg) else t).f, (if t.f = (lst S.L).f then (⟨(lst S.L).f, (lst S.L).w, (lst S.L).s + cst len (lst S.L).w⟩ : Tg) else t).w) = (t.f, t.w)
    split
    · rename_i e
      rw [h.ok.ok.inj ht (lst_mem hne) e]
    · rfl
  rw [hq]
  dsimp only
  unfold rebS
  rw [hby]
  split
  · refine ⟨0, fun f hf => ?_, ?_, hpt⟩
    · obtain ⟨t, e1, e2⟩ := hset f hf
      show lagO (setT _ S.L) f = _
      rw [lagO_get e2, lagO_get e1]
      dsimp only
      split <;> omega
    · show max S.tm (lst S.L).s = _; omega
  · refine ⟨max S.tm (lst S.L).s, fun f hf => ?_, ?_, ?_⟩
    · obtain ⟨t, e1, e2⟩ := hset f hf
      have e3 : fget (subS (chS S (lst S.L) ((lst S.L).s + cst len (lst S.L).w)) (chS S (lst S.L) ((lst S.L).s + cst len (lst S.L).w)).tm).L f = some ⟨t.f, t.w, (if f = (lst S.L).f then t.s + cst len (lst S.L).w else t.s) - max S.tm (lst S.L).s⟩ := by
        unfold subS
        dsimp only
        rw [fget_map _ (by intro t; rfl)]
        show (fget (setT _ S.L) f).map _ = _
        rw [e2]; rfl
      rw [lagO_get e3, lagO_get e1]
    · show max S.tm (lst S.L).s - max S.tm (lst S.L).s = _; omega
    · unfold subS ptsOf
      dsimp only
      rw [List.map_map]
      exact hpt
theorem lagO_move {D : List Tg} (_ : NOk D) {c s n : Int} (hz : (nMove D c s n).1 = 0) (f : Int) : lagO (nMove D c s n).2 f = lagO D f + (if f = c then n else 0) - (if f = s then n else 0) := by
  unfold nMove at hz ⊢
  cases hc : fget D c with
  | none => rw [hc] at hz; cases hz
  | some a =>
    cases hd : fget D s with
    | none => rw [hc, hd] at hz; cases hz
    | some d =>
      rw [hc, hd] at hz
      dsimp only at hz ⊢
      split at hz
      · cases hz
      · rename_i h1
        rw [if_neg h1]
        by_cases h2 : c = s
        · rw [if_pos h2]
          subst h2
          show lagO D f = _
          split <;> omega
        · rw [if_neg h2] at hz ⊢
          split at hz
          · cases hz
          · rename_i h3
            rw [if_neg h3]
            dsimp only
            obtain ⟨ma, rfl⟩ := fget_some hc
            obtain ⟨md, rfl⟩ := fget_some hd
            unfold lagO
            rw [fget_setT, fget_setT]
            dsimp only
            by_cases f1 : f = d.f
            · subst f1
              rw [if_pos rfl, if_neg (Ne.symm h2), hd, if_neg (Ne.symm h2), if_pos rfl]
              show d.s - n = d.s + 0 - n; omega
            · rw [if_neg f1, if_neg f1]
              by_cases f2 : f = a.f
              · subst f2
                rw [if_pos rfl, if_pos rfl, hc]
                show a.s + n = a.s + n - 0; omega
              · rw [if_neg f2, if_neg f2]; omega
theorem mget_filtK {α : Type} (p : Int → Bool) (f : Int) : ∀ n : List (Int × α), mget (n.filter fun x => p x.1) f = if p f = true then mget n f else none
  | [] => by simp [mget]
  | (k, v) :: n => by
    have ih := mget_filtK p f n
    by_cases hk : p k = true
    · rw [List.filter_cons_of_pos (by simpa using hk)]
      show (if f = k then some v else mget _ f) = if p f = true then (if f = k then some v else mget n f) else none
      rw [ih]
      by_cases hf : f = k
      · subst hf; rw [if_pos rfl, if_pos hk, if_pos rfl]
      · rw [if_neg hf, if_neg hf]
    · rw [List.filter_cons_of_neg (by simpa using hk), ih]
      show _ = if p f = true then (if f = k then some v else mget n f) else none
      by_cases hf : f = k
      · subst hf; rw [if_neg hk, if_neg hk]
      · rw [if_neg hf]
theorem cnt_next (D : List Tg) (n : List (Int × (Int × Int))) (f : Int) : cntO (resetC D n) f = if lagO D f < 0 then cntO n f else (0, 0) := by
  unfold cntO resetC
  rw [mget_filtK (fun k => decide (lagO D k < 0)) f n]
  by_cases h : lagO D f < 0
  · rw [if_pos (by simpa using h), if_pos h]
  · rw [if_neg (by simpa using h), if_neg h]; rfl
theorem cnt_bump (n : List (Int × (Int × Int))) (c : Chc) (len f : Int) : cntO (bumpC n c len) f = if f = c.ch then ((cntO n c.ch).1 + len, if c.ch = c.sv then (cntO n c.ch).2 + len else (cntO n c.ch).2) else cntO n f := by
  unfold bumpC
  generalize cntO n c.ch = z
  unfold cntO
  rw [mget_mput]
  split <;> rfl
theorem ex_lead {N : Nat} {D : List Tg} (h : LgOk N D) (h0 : sumS D = 0) {i : Int} (hi : 0 < lagO D i) : ∃ l, l ∈ D.map (·.f) ∧ lagO D l < 0 := by
  refine Classical.byContradiction fun hn => ?_
  have hall : ∀ t ∈ D, 0 ≤ t.s := fun t ht => by
    have e := lagO_get (fget_memN h.ok ht)
    by_cases hs : t.s < 0
    · exact absurd ⟨t.f, List.mem_map.2 ⟨t, ht, rfl⟩, by omega⟩ hn
    · omega
  obtain ⟨t, ht⟩ : ∃ t, fget D i = some t := by
    cases hf : fget D i with
    | none => rw [lagO_none hf] at hi; omega
    | some t => exact ⟨t, rfl⟩
  rw [lagO_get ht] at hi
  have hm : ab t.s ≤ absS D := absS_mem (fget_some ht).1
  have he : absS D = sumS D := by
    unfold absS sumS
    exact sumI_ab_nonneg _ fun q hq => by obtain ⟨u, hu, rfl⟩ := List.mem_map.1 hq; exact hall u hu
  unfold ab at hm
  omega
end Go.Proofs.YtjpahfkchhnpoaaGreat

/- Cifq, plain: joining, the state in which the laws begin, the example. -/
namespace Go.Proofs.YtjpahfkchhnpoaaGreat
open Go.RowKit
open SP

theorem PtOk.sortK {l : List (Int × Int)} (h : PtOk l) : Go.Proofs.YtjpahfkchhnpoaaGreat.sortK l = l.map (·.1) := by
  unfold Go.Proofs.YtjpahfkchhnpoaaGreat.sortK
  refine List.Perm.eq_of_pairwise (le := fun a b => a ≤ b) (fun a b _ _ h1 h2 => Int.le_antisymm h1 h2) ?_ ?_ (List.mergeSort_perm _ _)
  · have := List.pairwise_mergeSort (le := leI) (fun a b c h1 h2 => by simp [leI] at *; omega) (fun a b => by simp [leI]; omega) (l.map (·.1))
    exact this.imp (fun h => by simpa [leI] using h)
  · rw [List.pairwise_map]; exact h.asc.imp Int.le_of_lt
def leastP (el tg : List (Int × Int)) : Int := leastL tg (el.map (·.1)) (-1)
theorem PtOk.least {l : List (Int × Int)} (h : PtOk l) (tg : List (Int × Int)) : leastF l tg = leastP l tg := by unfold leastF leastP; rw [h.sortK]
def servByP (el tg : List (Int × Int)) (tm f len : Int) : Int := min (servTm tg tm f) (tget (servTg el tg f len) (leastP el (servTg el tg f len)))
def servOP (reb : Int) (o : Ord) (f len : Int) : Int × Ord :=
  if servE o.el o.tg f len ≠ 0 then (servE o.el o.tg f len, o) else
  if servByP o.el o.tg o.tm f len < reb then (0, ⟨o.el, servTg o.el o.tg f len, servTm o.tg o.tm f⟩) else
  (0, ⟨o.el, lower (servByP o.el o.tg o.tm f len) (servTg o.el o.tg f len), servTm o.tg o.tm f - servByP o.el o.tg o.tm f len⟩)
theorem servO_eq {o : Ord} (h : PtOk o.el) (reb f len : Int) : servO reb o f len = servOP reb o f len := by
  have e : ∀ tg tm, servBy o.el tg tm f len = servByP o.el tg tm f len := fun tg tm => by unfold servBy servByP; rw [h.least]
  unfold servO servOP
  rw [e]
def chooseP (num den : Int) (s : Cq) (H : List Head) (some_ : Bool) : Chc :=
  let k := (selT s.R.L).1
  let can := (headOf H k).good
  if (can && (!decide (lagO s.D k < 0) || keepsO num den (cntO s.n k))) = true then ⟨k, k, 1⟩
  else if 0 ≤ leastP s.C.el s.C.tg then ⟨k, leastP s.C.el s.C.tg, if can = true then 2 else 3⟩
  else if can = true then ⟨k, k, 1⟩
  else if some_ = true then ⟨k, if 0 ≤ leastP s.X.el s.X.tg then leastP s.X.el s.X.tg else 0, 4⟩
  else chIdle
def servP (reb : Int) (C X : Ord) (c : Chc) (len : Int) : Int × Ord × Ord :=
  if c.why = 2 ∨ c.why = 3 then ((servOP reb C c.sv len).1, (servOP reb C c.sv len).2, X)
  else if c.why = 4 then ((servOP reb X c.sv len).1, C, (servOP reb X c.sv len).2)
  else (0, C, X)
/-- A slot, reckoned. -/
def stepP (num den reb : Int) (s : Cq) (H : List Head) : Chc × Int × Cq :=
  if fitsH s.R.L H = false then (ch0, 1, s)
  else if H = [] then (ch0, 5, s)
  else
    let C := eligO s.C (lagH s.D H)
    let X := eligO s.X (allH s.D H)
    let c := chooseP num den { s with C := C, X := X } H (!(allH s.D H).isEmpty)
    if c = chIdle then (c, 0, { s with C := C, X := X })
    else
      let len := (headOf H c.sv).len
      let r := chargeR reb s.R c.ch len
      if r.1 ≠ 0 then (ch0, r.1, s)
      else
        let o := servP reb C X c len
        if o.1 ≠ 0 then (ch0, o.1, s)
        else
          let d := nMove s.D c.ch c.sv len
          if d.1 ≠ 0 then (ch0, d.1, s)
          else (c, 0, ⟨r.2, d.2, o.2.1, o.2.2, resetC d.2 (if countC num den s c = true then bumpC s.n c len else s.n)⟩)
section
variable {i m N : Nat} {s : Cq}
theorem CqInv.reckon (h : CqInv i m N s) (num den reb : Int) (H : List Head) : stepC num den reb s H = stepP num den reb s H := by
  have hl : ∀ p, PtOk (pickH s.D p H) := fun p => h.dpt.sub (pickH_sub _ _ _)
  have eC : PtOk (eligO s.C (lagH s.D H)).el := (h.c.elig (hl _)).pts
  have eX : PtOk (eligO s.X (allH s.D H)).el := (h.x.elig (hl _)).pts
  have e1 : chooseC num den { s with C := eligO s.C (lagH s.D H), X := eligO s.X (allH s.D H) } H (!(allH s.D H).isEmpty) = chooseP num den { s with C := eligO s.C (lagH s.D H), X := eligO s.X (allH s.D H) } H (!(allH s.D H).isEmpty) := by
    unfold chooseC chooseP
    dsimp only
    rw [eC.least, eX.least]
  have e2 : ∀ c len, servC reb (eligO s.C (lagH s.D H)) (eligO s.X (allH s.D H)) c len = servP reb (eligO s.C (lagH s.D H)) (eligO s.X (allH s.D H)) c len := fun c len => by
    unfold servC servP
    rw [servO_eq eC, servO_eq eX]
  unfold stepC stepP
  dsimp only
  rw [e1]
  simp only [e2]
/-- A slot with heads that fit gives no error. -/
theorem CqInv.next (h : CqInv i m N s) (hi : i ≤ 299) (hN : N ≤ 1000000) (num den reb : Int) {H : List Head} (hf : fitsH s.R.L H = true) (hne : H ≠ []) :
    (stepC num den reb s H).2.1 = 0 ∧ CqInv (i + 1) (m + 1) (N + 1) (stepC num den reb s H).2.2 := by
  obtain ⟨_, _, _, _, h5⟩ := h.step hi hN num den reb hf hne rfl rfl rfl
  rcases h5 with ⟨_, e, h6⟩ | ⟨j, why, len, _, _, _, _, _, _, _, e, _, _, _, h6, _⟩
  · rw [e]; exact ⟨rfl, h6.le (by omega) (by omega) (by omega)⟩
  · rw [e]; exact ⟨rfl, h6⟩
def joinC (s : Cq) (f w : Int) : Cq := { s with R := joinS s.R f w, D := (nJoin s.D f w).2 }
theorem CqInv.join (h : CqInv i m N s) {f w : Int} (he : joinE s.R f w = 0) : (nJoin s.D f w).1 = 0 ∧ CqInv i m N (joinC s f w) := by
  obtain ⟨_, hn, h1, h2, h3, h4⟩ := h.t.ok.join he
  have hD : fget s.D f = none := fget_none.2 fun t ht e => by
    have : f ∈ s.D.map (·.f) := List.mem_map.2 ⟨t, ht, e⟩
    rw [h.fl] at this
    obtain ⟨u, hu⟩ := fget_of_f this
    rw [hn] at hu; cases hu
  have hj : nJoin s.D f w = (0, insT ⟨f, w, 0⟩ s.D) := by unfold nJoin; rw [if_neg (by omega), hD]; rfl
  have hpt : ∀ (x : Tg) (L : List Tg), ptsOf (insT x L) = ptsOf (insT ⟨x.f, x.w, 0⟩ (L.map fun t => ⟨t.f, t.w, 0⟩)) := fun x L => by
    induction L with
    | nil => rfl
    | cons t L ih =>
      unfold insT
      rw [List.map_cons]
      show ptsOf (if t.f < x.f then t :: insT x L else x :: t :: L) = ptsOf (if t.f < x.f then ⟨t.f, t.w, 0⟩ :: insT ⟨x.f, x.w, 0⟩ (L.map fun t => ⟨t.f, t.w, 0⟩) else ⟨x.f, x.w, 0⟩ :: ⟨t.f, t.w, 0⟩ :: L.map fun t => ⟨t.f, t.w, 0⟩)
      split
      · show (t.f, t.w) :: ptsOf (insT x L) = (t.f, t.w) :: ptsOf _
        rw [ih]
      · show (x.f, x.w) :: (t.f, t.w) :: ptsOf L = (x.f, x.w) :: (t.f, t.w) :: ptsOf _
        congr 2
        unfold ptsOf
        rw [List.map_map]; rfl
  have hmp : ∀ {L M : List Tg}, ptsOf L = ptsOf M → (L.map fun t => (⟨t.f, t.w, 0⟩ : Tg)) = M.map fun t => ⟨t.f, t.w, 0⟩ := fun {L M} e => by
    have := congrArg (List.map fun p : Int × Int => (⟨p.1, p.2, 0⟩ : Tg)) e
    unfold ptsOf at this
    rwa [List.map_map, List.map_map] at this
  refine ⟨by rw [hj], h.t.joinS he, h.aw, ?_, ?_, ?_, h.c, h.x, h.nu, h.nv⟩
  · unfold joinC joinS
    dsimp only
    rw [hj]
    dsimp only
    rw [hpt, hpt ⟨f, w, max s.R.tm (s.R.old f)⟩, hmp h.pts]
  · exact nJoin_ok h.lg f w
  · exact (nJoin_sum s.D f w).trans h.sum
end
/-- Flows 0, 1, .. with these weights have joined. -/
def lw (ws : List Int) : List Tg := (List.range ws.length).map fun (i : Nat) => (⟨(i : Int), ws.getD i 0, 0⟩ : Tg)
def stW (ws : List Int) : Cq := ⟨⟨lw ws, fun _ => 0, 0, 0⟩, lw ws, ⟨[], [], 0⟩, ⟨[], [], 0⟩, []⟩
theorem lw_snoc (ws : List Int) (w : Int) : lw (ws ++ [w]) = lw ws ++ [⟨(ws.length : Int), w, 0⟩] := by
  unfold lw
  rw [List.length_append, List.length_singleton, List.range_succ, List.map_append]
  congr 1
  · refine List.map_congr_left fun i hi => ?_
    have := List.mem_range.1 hi
    rw [List.getD_eq_getElem?_getD, List.getElem?_append_left this, ← List.getD_eq_getElem?_getD]
  · simp
theorem insT_end {x : Tg} : ∀ {L : List Tg}, (∀ t ∈ L, t.f < x.f) → insT x L = L ++ [x]
  | [], _ => rfl
  | a :: L, h => by
    unfold insT
    rw [if_pos (h a (by simp)), insT_end fun t ht => h t (by simp [ht])]; rfl
theorem lw_lt {ws : List Int} : ∀ t ∈ lw ws, 0 ≤ t.f ∧ t.f < (ws.length : Int) := fun t ht => by
  unfold lw at ht
  obtain ⟨i, hi, rfl⟩ := List.mem_map.1 ht
  have := List.mem_range.1 hi
  dsimp only
  omega
theorem lw_len (ws : List Int) : (lw ws).length = ws.length := by unfold lw; simp
theorem lw_fresh {ws : List Int} {f : Int} (h : (ws.length : Int) ≤ f) : fget (lw ws) f = none := fget_none.2 fun t ht e => by have := lw_lt t ht; omega
theorem stW_join {ws : List Int} {w : Int} (hl : ws.length < 32) (h1 : 1 ≤ w) (h2 : w ≤ 16) : joinE (stW ws).R ws.length w = 0 ∧ joinC (stW ws) ws.length w = stW (ws ++ [w]) := by
  have hf : fget (lw ws) (ws.length : Int) = none := lw_fresh (Int.le_refl _)
  have he : joinE (stW ws).R ws.length w = 0 := by
    unfold joinE stW
    dsimp only
    rw [if_neg (by omega), hf]; rfl
  refine ⟨he, ?_⟩
  have hj : nJoin (lw ws) (ws.length : Int) w = (0, lw (ws ++ [w])) := by
    unfold nJoin
    rw [if_neg (by omega), hf, insT_end (fun t ht => (lw_lt t ht).2), lw_snoc]; rfl
  have ho : (fun g : Int => if g = (ws.length : Int) then (0 : Int) else 0) = fun _ => 0 := by funext g; split <;> rfl
  unfold joinC joinS stW
  dsimp only
  rw [hj, ho, insT_end (fun t ht => (lw_lt t ht).2), lw_snoc]
  rfl
theorem stW_inv : ∀ (n : Nat) (ws : List Int), ws.length = n → n ≤ 32 → (∀ w ∈ ws, 1 ≤ w ∧ w ≤ 16) → CqInv 0 0 0 (stW ws)
  | 0, ws, h, _, _ => by rw [List.eq_nil_of_length_eq_zero h]; exact CqInv.start
  | n + 1, ws, h, hn, hw => by
    obtain ⟨ws', w, rfl⟩ : ∃ ws' w, ws = ws' ++ [w] := ⟨ws.dropLast, ws.getLast (by intro e; rw [e] at h; cases h), (List.dropLast_concat_getLast _).symm⟩
    have hl : ws'.length = n := by simp at h; omega
    obtain ⟨h1, h2⟩ := stW_join (ws := ws') (w := w) (by omega) (hw w (by simp)).1 (hw w (by simp)).2
    rw [← h2]
    exact ((stW_inv n ws' hl (by omega) fun x hx => hw x (by simp [hx])).join h1).2

/-! ### The example -/
def awH : Nat → List Head
  | 0 => [⟨0, 100, false⟩, ⟨1, 100, true⟩]
  | _ => [⟨0, 100, true⟩, ⟨1, 100, true⟩]
def awS : Nat → Cq
  | 0 => stW [1, 1]
  | k + 1 => (stepP 1 2 1099511627776 (awS k) (awH k)).2.2
def awC : Nat → Chc
  | 0 => ⟨0, 1, 4⟩
  | 1 => ⟨1, 1, 1⟩
  | 2 => ⟨0, 0, 1⟩
  | _ => ⟨1, 0, 2⟩
theorem aw_inv : ∀ k : Nat, k ≤ 4 → CqInv k k k (awS k)
  | 0, _ => stW_inv 2 [1, 1] rfl (by omega) (by simp)
  | k + 1, h => by
    have ih := aw_inv k (by omega)
    have hf : fitsH (awS k).R.L (awH k) = true := by
      have : k = 0 ∨ k = 1 ∨ k = 2 ∨ k = 3 := by omega
      rcases this with rfl | rfl | rfl | rfl <;> decide
    have := (ih.next (by omega) (by omega) 1 2 1099511627776 hf (by cases k <;> simp [awH])).2
    rw [ih.reckon] at this
    exact this
theorem aw_step {k : Nat} (h : k < 4) : fitsH (awS k).R.L (awH k) = true ∧ stepC 1 2 1099511627776 (awS k) (awH k) = (awC k, 0, awS (k + 1)) := by
  rw [(aw_inv k (by omega)).reckon]
  have : k = 0 ∨ k = 1 ∨ k = 2 ∨ k = 3 := by omega
  rcases this with rfl | rfl | rfl | rfl
  · exact ⟨by decide, by rfl⟩
  · exact ⟨by decide, by rfl⟩
  · exact ⟨by decide, by rfl⟩
  · exact ⟨by decide, by rfl⟩
end Go.Proofs.YtjpahfkchhnpoaaGreat

/- Cifq, plain: the laws on lags that do not grow, and on slots without errors. -/
namespace Go.Proofs.YtjpahfkchhnpoaaGreat
open Go.RowKit
open SP
section
variable {i m N : Nat} {s : Cq} {num den reb : Int} {H : List Head}

theorem CqInv.next_pts (h : CqInv i m N s) (hi : i ≤ 299) (hN : N ≤ 1000000) (hf : fitsH s.R.L H = true) (hne : H ≠ []) : ptsOf (stepC num den reb s H).2.2.R.L = ptsOf s.R.L := by
  obtain ⟨f1, _⟩ := fits_facts hf
  have hL : s.R.L ≠ [] := fun e => by rw [e] at f1; simp at f1; exact hne f1
  obtain ⟨_, _, _, _, h5⟩ := h.step hi hN num den reb hf hne rfl rfl rfl
  rcases h5 with ⟨_, e, _⟩ | ⟨j, why, len, hc, _, _, _, l1, l2, _, e, _, _, _, _, _⟩
  · rw [e]
  · rw [e, hc]
    obtain ⟨_, _, _, h3⟩ := charge_tags h.t (by omega) hL l1 l2 reb
    exact h3
theorem ptsOf_flows {L M : List Tg} (h : ptsOf L = ptsOf M) : L.map (·.f) = M.map (·.f) := by rw [← ptsOf_f, ← ptsOf_f, h]
theorem fits_of {L : List Tg} {F : List Int} (h1 : L.map (·.f) = F) (h2 : H.map (·.f) = F) (h3 : ∀ h ∈ H, 1 ≤ h.len ∧ h.len ≤ 4096) : fitsH L H = true := by
  unfold fitsH
  rw [h1, h2, Bool.and_eq_true, decide_eq_true_eq, List.all_eq_true]
  exact ⟨rfl, fun x hx => by simpa using h3 x hx⟩
/-- The lag of a flow that can send and does not lead does not grow. -/
theorem CqInv.steady (h : CqInv i m N s) (hi : i ≤ 299) (hN : N ≤ 1000000) (hf : fitsH s.R.L H = true) (hne : H ≠ []) {f : Int} (hg : (headOf H f).good = true) (hl : 0 ≤ lagO s.D f) :
    lagO (stepC num den reb s H).2.2.D f ≤ lagO s.D f := by
  obtain ⟨f1, _⟩ := fits_facts hf
  have hL : s.R.L ≠ [] := fun e => by rw [e] at f1; simp at f1; exact hne f1
  obtain ⟨_, _, _, _, h5⟩ := h.step hi hN num den reb hf hne rfl rfl rfl
  rcases h5 with ⟨_, e, _⟩ | ⟨j, why, len, hc, _, _, _, l1, l2, _, e, _, _, q3, _, _⟩
  · rw [e]; exact Int.le_refl _
  · rw [e]
    show lagO (nMove s.D _ _ len).2 f ≤ _
    have hcc := hc
    rw [hc]
    dsimp only
    rw [lagO_move h.lg.ok q3 f]
    by_cases hk : f = (lst s.R.L).f
    · have hkj : j = (lst s.R.L).f := by
        unfold chooseC at hcc
        dsimp only at hcc
        rw [(selT_mem hL).1] at hcc
        dsimp only at hcc
        rw [← hk, hg] at hcc
        have hd : decide (lagO s.D f < 0) = false := by simpa using hl
        rw [hd] at hcc
        rw [if_pos (by simp)] at hcc
        have := congrArg Chc.sv hcc
        exact hk ▸ this.symm
      rw [if_pos hk, if_pos (by rw [hkj]; exact hk)]
      omega
    · rw [if_neg hk]
      split <;> omega
/-- Without errors and without lags. -/
theorem CqInv.good (h : CqInv i m N s) (hi : i ≤ 299) (hN : N ≤ 1000000) (hf : fitsH s.R.L H = true) (hne : H ≠ []) (hg : ∀ x ∈ H, x.good = true) (hl : ∀ f, lagO s.D f = 0) :
    (stepC num den reb s H).1 = ⟨(lst s.R.L).f, (lst s.R.L).f, 1⟩ ∧ ∀ f, lagO (stepC num den reb s H).2.2.D f = 0 := by
  obtain ⟨f1, _⟩ := fits_facts hf
  have hL : s.R.L ≠ [] := fun e => by rw [e] at f1; simp at f1; exact hne f1
  have hm := (selT_mem hL).2
  rw [← f1] at hm
  have hgk := hg _ (headOf_mem hm).1
  have hch : ∀ C X so, chooseC num den { s with C := C, X := X } H so = ⟨(lst s.R.L).f, (lst s.R.L).f, 1⟩ := fun C X so => by
    unfold chooseC
    dsimp only
    rw [(selT_mem hL).1]
    dsimp only
    rw [hgk, hl, if_pos (by simp)]
  obtain ⟨_, _, _, _, h5⟩ := h.step hi hN num den reb hf hne rfl rfl rfl
  rcases h5 with ⟨hc, _, _⟩ | ⟨j, why, len, hc, _, _, _, l1, l2, _, e, _, _, q3, _, _⟩
  · rw [hch] at hc
    cases congrArg Chc.why hc
  · rw [hch] at hc e
    have hj : j = (lst s.R.L).f := (congrArg Chc.sv hc).symm
    refine ⟨by rw [e], fun f => ?_⟩
    rw [e]
    show lagO (nMove s.D (lst s.R.L).f (lst s.R.L).f len).2 f = 0
    rw [hj] at q3
    rw [lagO_move h.lg.ok q3 f, hl]
    omega
end
end Go.Proofs.YtjpahfkchhnpoaaGreat

/- Cifq, plain: a lagging flow catches up within the closed form. -/
namespace Go.Proofs.YtjpahfkchhnpoaaGreat
open Go.RowKit
open SP

/-- A slot that serves, by lookups. -/
structure SlotF (num den : Int) (s s' : Cq) (C : Ord) (k j why len wk : Int) : Prop where
  rl : ∃ by_ : Int, (∀ f ∈ s.R.L.map (·.f), lagO s'.R.L f = (if f = k then lagO s.R.L f + cst len wk else lagO s.R.L f) - by_) ∧ s'.R.tm = lagO s.R.L k - by_
  pt : ptsOf s'.R.L = ptsOf s.R.L
  d : ∀ f, lagO s'.D f = lagO s.D f + (if f = k then len else 0) - (if f = j then len else 0)
  n : ∀ f, cntO s'.n f = if lagO s'.D f < 0 then (if countC num den s ⟨k, j, why⟩ = true ∧ f = k then ((cntO s.n k).1 + len, if k = j then (cntO s.n k).2 + len else (cntO s.n k).2) else cntO s.n f) else (0, 0)
  co : (why = 2 ∨ why = 3) → ∃ wt by_ : Int, mget C.el j = some wt ∧ 0 ≤ by_ ∧ by_ ≤ tget C.tg j ∧ C.tm ≤ tget C.tg j ∧ (∀ p ∈ C.el, tget C.tg j ≤ tget C.tg p.1) ∧ s'.C.tm = tget C.tg j - by_ ∧
    ∀ g, tget s'.C.tg g = max ((if g = j then tget C.tg j + cst len wt else tget C.tg g) - by_) 0
  cn : ¬ (why = 2 ∨ why = 3) → s'.C = C
  own : why = 1 → j = k
  kw : (k, wk) ∈ ptsOf s.R.L
  kmin : ∀ f ∈ s.R.L.map (·.f), lagO s.R.L k ≤ lagO s.R.L f
section
variable {i m N : Nat} {s : Cq} {num den reb : Int} {H : List Head}

theorem CqInv.slot (h : CqInv i m N s) (hi : i ≤ 299) (hN : N ≤ 1000000) (num den reb : Int) (hf : fitsH s.R.L H = true) (hne : H ≠ []) {c : Chc}
    (hc : chooseC num den { s with C := eligO s.C (lagH s.D H), X := eligO s.X (allH s.D H) } H (!(allH s.D H).isEmpty) = c) (hid : c ≠ chIdle) :
    ∃ len wk, c.ch = (lst s.R.L).f ∧ (∃ x ∈ H, x.len = len) ∧ 1 ≤ len ∧ len ≤ 4096 ∧ (stepC num den reb s H).1 = c ∧ SlotF num den s (stepC num den reb s H).2.2 (eligO s.C (lagH s.D H)) c.ch c.sv c.why len wk := by
  obtain ⟨f1, _⟩ := fits_facts hf
  have hL : s.R.L ≠ [] := fun e => by rw [e] at f1; simp at f1; exact hne f1
  obtain ⟨oC, _, _, _, h5⟩ := h.step hi hN num den reb hf hne rfl rfl hc
  rcases h5 with ⟨e, _⟩ | ⟨j, why, len, hcc, hj0, hlen, hjH, l1, l2, hway, e, q1, q2, q3, _, _⟩
  · exact absurd e hid
  · subst hcc
    obtain ⟨by_, r1, r2, r3⟩ := charge_tags h.t (by omega) hL l1 l2 reb
    have hls : lagO s.R.L (lst s.R.L).f = (lst s.R.L).s := lagO_get (fget_mem h.t.ok.ok (lst_mem hL))
    refine ⟨len, (lst s.R.L).w, rfl, ?_, l1, l2, by rw [e], ?_⟩
    · have hm : j ∈ H.map (·.f) := by obtain ⟨x, hx, rfl⟩ := hjH; exact List.mem_map.2 ⟨x, hx, rfl⟩
      exact ⟨_, (headOf_mem hm).1, hlen⟩
    · rw [e]
      refine ⟨⟨by_, r1, by rw [hls]; exact r2⟩, r3, fun f => lagO_move h.lg.ok q3 f, fun f => ?_, fun hw => ?_, fun hw => ?_, fun hw => ?_, ?_, fun f hf => ?_⟩
      · show cntO (resetC (nMove s.D (lst s.R.L).f j len).2 _) f = _
        rw [cnt_next]
        show _ = if lagO (nMove s.D (lst s.R.L).f j len).2 f < 0 then _ else _
        split
        · by_cases hcb : countC num den s ⟨(lst s.R.L).f, j, why⟩ = true
          · rw [if_pos hcb, cnt_bump]
            dsimp only
            by_cases hfk : f = (lst s.R.L).f
            · rw [if_pos hfk]; exact (if_pos (And.intro hcb hfk)).symm
            · rw [if_neg hfk]; exact (if_neg fun h => hfk h.2).symm
          · rw [if_neg hcb]; exact (if_neg fun h => hcb h.1).symm
        · rfl
      · have hjl : j = leastF (eligO s.C (lagH s.D H)).el (eligO s.C (lagH s.D H)).tg := by
          rcases hway with ⟨hw1, _⟩ | ⟨_, hj⟩ | ⟨hw1, _⟩
          · dsimp only at hw; omega
          · exact hj
          · dsimp only at hw; omega
        obtain ⟨wt, g1, g2, g3, g4, g5, g6, g7, g8, by2, b1, b2, b3, b4, b5⟩ := oC.serv (by omega) reb hjl hj0 l1 l2
        refine ⟨wt, by2, g1, b1, b2, g8, g7, ?_, ?_⟩
        · show (servC reb _ _ ⟨_, j, why⟩ len).2.1.tm = _
          unfold servC
          rw [if_pos hw]; exact b4
        · intro g
          show tget (servC reb _ _ ⟨_, j, why⟩ len).2.1.tg g = _
          unfold servC
          rw [if_pos hw]; exact b5 g
      · show (servC reb _ _ ⟨_, j, why⟩ len).2.1 = _
        unfold servC
        rw [if_neg hw]
        split <;> rfl
      · dsimp only at hw ⊢
        rcases hway with ⟨_, hj⟩ | ⟨hw1, _⟩ | ⟨hw1, _⟩
        · exact hj
        · omega
        · omega
      · unfold ptsOf
        exact List.mem_map.2 ⟨_, lst_mem hL, rfl⟩
      · obtain ⟨t, ht⟩ := fget_of_f hf
        rw [hls, lagO_get ht]
        exact lst_min (fget_some ht).1
theorem choose_why2 {num den : Int} {s : Cq} {so : Bool} {k j : Int} (h : chooseC num den s H so = ⟨k, j, 2⟩) : lagO s.D k < 0 ∧ keepsO num den (cntO s.n k) = false := by
  unfold chooseC at h
  dsimp only at h
  split at h
  · cases congrArg Chc.why h
  · rename_i hn
    split at h
    · have hk := congrArg Chc.ch h
      have hw := congrArg Chc.why h
      dsimp only at hk hw
      rw [hk] at hn hw
      split at hw
      · rename_i hg
        rw [hg] at hn
        cases h1 : decide (lagO s.D k < 0) with
        | false => rw [h1] at hn; simp at hn
        | true =>
          cases h2 : keepsO num den (cntO s.n k) with
          | false => exact ⟨by simpa using h1, rfl⟩
          | true => rw [h2] at hn; simp at hn
      · omega
    · split at h
      · cases congrArg Chc.why h
      · split at h
        · cases congrArg Chc.why h
        · cases congrArg Chc.why h
/-- What a slot does where a lagging flow can send. -/
theorem choose_lagging {num den : Int} (h : CqInv i m N s) (hf : fitsH s.R.L H = true) {f : Int} (hfl : f ∈ s.D.map (·.f)) (hl : 0 < lagO s.D f) (hg : (headOf H f).good = true) {c : Chc} {X : Ord}
    (hc : chooseC num den { s with C := eligO s.C (lagH s.D H), X := X } H (!(allH s.D H).isEmpty) = c) :
    (∃ w, (f, w) ∈ (eligO s.C (lagH s.D H)).el) ∧ (c.why = 1 ∧ c.sv = c.ch ∧ c.ch = (selT s.R.L).1 ∧ (lagO s.D c.ch < 0 → keepsO num den (cntO s.n c.ch) = true) ∨
      (c.why = 2 ∨ c.why = 3) ∧ c.ch = (selT s.R.L).1 ∧ c.ch ≠ f ∧ c.sv = leastF (eligO s.C (lagH s.D H)).el (eligO s.C (lagH s.D H)).tg) ∧ c ≠ chIdle := by
  obtain ⟨f1, _⟩ := fits_facts hf
  have hl' : ∀ p, PtOk (pickH s.D p H) := fun p => h.dpt.sub (pickH_sub _ _ _)
  have oC := h.c.elig (hl' fun x => x.good && decide (0 < lagO s.D x.f))
  have eC := h.c.elig_el (hl' fun x => x.good && decide (0 < lagO s.D x.f))
  have hin : ∃ w, (f, w) ∈ lagH s.D H := by
    obtain ⟨q, hq, rfl⟩ := List.mem_map.1 hfl
    obtain ⟨p, hp⟩ := List.getElem?_of_mem hq
    have hmf : H.map (·.f) = s.D.map (·.f) := by rw [f1, h.fl]
    have hHp : (H.map (·.f))[p]? = some q.f := by rw [hmf, List.getElem?_map, hp]; rfl
    rw [List.getElem?_map] at hHp
    cases hx : H[p]? with
    | none => rw [hx] at hHp; cases hHp
    | some x =>
      rw [hx] at hHp
      have hxf : x.f = q.f := Option.some.inj hHp
      refine ⟨q.w, ?_⟩
      unfold lagH pickH
      refine List.mem_map.2 ⟨(x, (q.f, q.w)), List.mem_filter.2 ⟨?_, ?_⟩, rfl⟩
      · have : (H.zip (ptsOf s.D))[p]? = some (x, (q.f, q.w)) := by
          rw [List.getElem?_zip_eq_some]
          exact ⟨hx, by unfold ptsOf; rw [List.getElem?_map, hp]; rfl⟩
        exact List.mem_of_getElem? this
      · have hxg : headOf H q.f = x := by
          have hasc : H.Pairwise fun a b => a.f < b.f := by
            have := h.lg.ok.asc'
            rw [← hmf, List.pairwise_map] at this
            exact this
          obtain ⟨m1, m2⟩ := headOf_mem (H := H) (f := q.f) (by rw [hmf]; exact hfl)
          have hxm := List.mem_of_getElem? hx
          generalize headOf H q.f = y at *
          have huq : ∀ {l : List Head}, l.Pairwise (fun a b => a.f < b.f) → ∀ a ∈ l, ∀ b ∈ l, a.f = b.f → a = b := by
            intro l
            induction l with
            | nil => intro _ a ha; cases ha
            | cons z l ih =>
              intro hp a ha b hb e
              rw [List.pairwise_cons] at hp
              rcases List.mem_cons.1 ha with ha | ha <;> rcases List.mem_cons.1 hb with hb | hb
              · rw [ha, hb]
              · have := hp.1 b hb; rw [ha] at e; omega
              · have := hp.1 a ha; rw [hb] at e; omega
              · exact ih hp.2 a ha b hb e
          exact huq hasc y m1 x hxm (m2.trans hxf.symm)
        rw [hxg] at hg
        dsimp only
        rw [hg, hxf]
        simpa using hl
  obtain ⟨w, hw⟩ := hin
  change (f, w) ∈ pickH s.D (fun x => x.good && decide (0 < lagO s.D x.f)) H at hw
  rw [← eC] at hw
  have hnn : 0 ≤ leastF (eligO s.C (lagH s.D H)).el (eligO s.C (lagH s.D H)).tg := by
    by_cases hlt : leastF (eligO s.C (lagH s.D H)).el (eligO s.C (lagH s.D H)).tg < 0
    · have := oC.least_nil.1 hlt
      rw [this] at hw; cases hw
    · omega
  refine ⟨⟨w, hw⟩, ?_⟩
  unfold chooseC at hc
  dsimp only at hc
  split at hc
  · rename_i hcond
    subst hc
    refine ⟨.inl ⟨rfl, rfl, rfl, fun hk => ?_⟩, by intro e; cases congrArg Chc.why e⟩
    dsimp only at hk ⊢
    rw [show decide (lagO s.D (selT s.R.L).1 < 0) = true by simpa using hk] at hcond
    simp only [Bool.not_true, Bool.false_or, Bool.and_eq_true] at hcond
    exact hcond.2
  · rename_i hcond
    subst hc
    refine ⟨.inr ⟨?_, rfl, ?_, rfl⟩, ?_⟩
    · dsimp only
      split
      · exact .inl rfl
      · exact .inr rfl
    · dsimp only
      intro e
      rw [e, hg, show decide (lagO s.D f < 0) = false by simp; omega] at hcond
      simp at hcond
    · intro e
      have := congrArg Chc.why e
      dsimp only [chIdle] at this
      split at this <;> omega
end
end Go.Proofs.YtjpahfkchhnpoaaGreat

/- Cifq, plain: the potential of a lagging flow. -/
namespace Go.Proofs.YtjpahfkchhnpoaaGreat
open Go.RowKit
open SP

def eff (o : Ord) (f : Int) : Int := max (tget o.tg f) o.tm
def pOf (num den : Int) (c : Int × Int) : Int := c.2 * den - num * c.1
/-- What is kept in slots with packets of one size. -/
structure DInv (sz : Int) (P : List (Int × Int)) (num den : Int) (s : Cq) : Prop where
  pts : ptsOf s.R.L = P
  ts : ∀ p ∈ P, lagO s.R.L p.1 ≤ s.R.tm + cst sz p.2
  te : ∀ p ∈ P, tget s.C.tg p.1 ≤ s.C.tm + cst sz p.2
  kp : ∀ f, -(num * sz) < pOf num den (cntO s.n f)
  dv : ∀ f, ∃ q : Int, lagO s.D f = q * sz
section
variable {sz : Int} {P : List (Int × Int)} {num den : Int} {s s' : Cq} {C : Ord} {k j why wk : Int} {i m N : Nat}

theorem keeps_iff (c : Int × Int) : keepsO num den c = true ↔ pOf num den c ≤ 0 := by
  unfold keepsO pOf
  rw [decide_eq_true_eq]
  omega
/-- The tags of eligible orders. -/
theorem elig_eff (o : Ord) (l : List (Int × Int)) (f : Int) : eff (eligO o l) f = eff o f ∧ (eligO o l).tm = o.tm ∧ tget (eligO o l).tg f ≤ eff o f := by
  unfold eff eligO
  dsimp only
  rw [eligTg_get]
  refine ⟨?_, rfl, ?_⟩
  · split <;> omega
  · split <;> omega
theorem count_keep {c : Int × Int} (_ : 0 < num) (_ : num < den) (_ : 1 ≤ sz) (_ : -(num * sz) < pOf num den c) (_ : pOf num den c ≤ 0) : pOf num den (c.1 + sz, c.2 + sz) = pOf num den c + sz * (den - num) := by
  unfold pOf
  dsimp only
  rw [Int.add_mul, Int.mul_add, Int.mul_sub, Int.mul_comm num sz]
  omega
theorem count_give {c : Int × Int} : pOf num den (c.1 + sz, c.2) = pOf num den c - num * sz := by
  unfold pOf
  dsimp only
  rw [Int.mul_add]; omega

theorem DInv.slot {len : Int} (h : DInv sz P num den s) (hI : CqInv i m N s) (hlen : len = sz) (hs : 1 ≤ sz) (hn : 0 < num) (hd : num < den) {l : List (Int × Int)} (hC : C = eligO s.C l) (hl : l.Sublist P) (hPk : PtOk P)
    (hw2 : why = 2 → keepsO num den (cntO s.n k) = false) (S : SlotF num den s s' C k j why len wk) : DInv sz P num den s' := by
  subst hlen
  have hP : P.map (·.1) = s.R.L.map (·.f) := by rw [← ptsOf_f, h.pts]
  have hpos : 0 < num * len := Int.mul_pos hn (by omega)
  have hdpos : 0 < len * (den - num) := Int.mul_pos (by omega) (by omega)
  have hcp : ∀ p ∈ P, 0 < cst len p.2 := fun p hp => by have := hPk.rng p hp; exact cst_pos hs this.2.2.1 this.2.2.2
  have huniq : ∀ {a b c : Int}, (a, b) ∈ P → (a, c) ∈ P → b = c := fun {a b c} h1 h2 => by
    have e1 := mget_mem hPk.uniq h1
    have e2 := mget_mem hPk.uniq h2
    rw [e1] at e2; exact Option.some.inj e2
  obtain ⟨by_, r1, r2⟩ := S.rl
  refine ⟨S.pt.trans h.pts, fun p hp => ?_, fun p hp => ?_, fun f => ?_, fun f => ?_⟩
  · have hpf : p.1 ∈ s.R.L.map (·.f) := by rw [← hP]; exact List.mem_map.2 ⟨p, hp, rfl⟩
    rw [r1 p.1 hpf, r2]
    have h1 := h.ts p hp
    have h3 := hcp p hp
    split
    · rename_i e
      have : p.2 = wk := huniq (a := p.1) hp (by rw [e, ← h.pts]; exact S.kw)
      rw [this, e]; omega
    · have hk := S.kw
      rw [h.pts] at hk
      have hkf : k ∈ s.R.L.map (·.f) := by rw [← hP]; exact List.mem_map.2 ⟨_, hk, rfl⟩
      have h4 := hI.t.act
      obtain ⟨t, ht⟩ := fget_of_f hkf
      have := (hI.t.act t (fget_some ht).1).1
      rw [lagO_get ht]; omega
  · have hel := elig_eff s.C l p.1
    have h3 := hcp p hp
    have h1 := h.te p hp
    have hm : tget C.tg p.1 ≤ C.tm + cst len p.2 := by
      rw [hC, hel.2.1]
      have := hel.2.2
      unfold eff at this
      omega
    by_cases hw : why = 2 ∨ why = 3
    · obtain ⟨wt, b2, g1, g2, g3, g4, g5, g6, g7⟩ := S.co hw
      rw [g7, g6]
      have hjl : (j, wt) ∈ P := by
        have := mem_of_mget g1
        rw [hC] at this
        unfold eligO at this
        dsimp only at this
        rw [eligEl_self (hPk.sub hl).uniq] at this
        exact hl.subset this
      split
      · rename_i e
        have : p.2 = wt := huniq (a := p.1) hp (by rw [e]; exact hjl)
        rw [this]
        rw [this] at h3
        omega
      · omega
    · rw [S.cn hw]; exact hm
  · rw [S.n f]
    split
    · split
      · rename_i hc
        obtain ⟨hcb, _⟩ := hc
        have hk := h.kp k
        unfold countC at hcb
        dsimp only at hcb
        rw [Bool.and_eq_true, Bool.or_eq_true, Bool.and_eq_true, decide_eq_true_eq, decide_eq_true_eq, decide_eq_true_eq] at hcb
        rcases hcb.2 with hw | ⟨hw1, hkk⟩
        · have hp0 : ¬ pOf num den (cntO s.n k) ≤ 0 := fun hle => by
            have := (keeps_iff (num := num) (den := den) (cntO s.n k)).2 hle
            rw [hw2 hw] at this; cases this
          split
          · have e : pOf num den ((cntO s.n k).1 + len, (cntO s.n k).2 + len) = pOf num den (cntO s.n k) + len * (den - num) := by
              unfold pOf; dsimp only
              rw [Int.add_mul, Int.mul_add, Int.mul_sub, Int.mul_comm num len]; omega
            rw [e]; omega
          · rw [count_give]; omega
        · have hle := (keeps_iff (num := num) (den := den) (cntO s.n k)).1 hkk
          split
          · rw [count_keep hn hd hs hk hle]; omega
          · rename_i hkj
            exact absurd (S.own hw1).symm hkj
      · exact h.kp f
    · unfold pOf; dsimp only; omega
  · obtain ⟨q, hq⟩ := h.dv f
    rw [S.d f, hq]
    refine ⟨q + (if f = k then 1 else 0) - (if f = j then 1 else 0), ?_⟩
    rw [Int.sub_mul, Int.add_mul]
    split <;> split <;> omega

/-! ### The potential -/
def potQ (sz num den : Int) (c : Int × Int) : Int := if 0 < pOf num den c then 1 else (-pOf num den c) / (sz * (den - num)) + 2
def keepK (num den : Int) : Int := num / (den - num) + 1
theorem potQ_pos {c : Int × Int} (hd : 0 < sz * (den - num)) : 1 ≤ potQ sz num den c := by
  unfold potQ
  split
  · exact Int.le_refl _
  · have := Int.ediv_nonneg (show 0 ≤ -pOf num den c by omega) (show 0 ≤ sz * (den - num) by omega)
    omega
theorem potQ_le {c : Int × Int} (hn : 0 < num) (hd : num < den) (hs : 1 ≤ sz) (h : -(num * sz) < pOf num den c) : potQ sz num den c ≤ keepK num den + 1 := by
  have hdp : 0 < sz * (den - num) := Int.mul_pos (by omega) (by omega)
  have h0 := Int.ediv_nonneg (show 0 ≤ num by omega) (show 0 ≤ den - num by omega)
  unfold potQ keepK
  split
  · omega
  · have h1 := Int.ediv_le_ediv hdp (show -pOf num den c ≤ sz * num by rw [Int.mul_comm sz num]; omega)
    rw [Int.mul_ediv_mul_of_pos _ _ (show 0 < sz by omega)] at h1
    omega
theorem potQ_keep {c c' : Int × Int} (hdp : 0 < sz * (den - num)) (hk : pOf num den c ≤ 0) (he : pOf num den c' = pOf num den c + sz * (den - num)) : potQ sz num den c' + 1 ≤ potQ sz num den c := by
  have hc : potQ sz num den c = (-pOf num den c) / (sz * (den - num)) + 2 := by unfold potQ; rw [if_neg (by omega)]
  rw [hc]
  unfold potQ
  rw [he]
  have h0 := Int.ediv_nonneg (show 0 ≤ -pOf num den c by omega) (show 0 ≤ sz * (den - num) by omega)
  split
  · omega
  · have e : -pOf num den c = -(pOf num den c + sz * (den - num)) + 1 * (sz * (den - num)) := by omega
    rw [e, Int.add_mul_ediv_right _ _ (by omega)]
    omega
/-- At most m slots are left. -/
def Pot (sz : Int) (P : List (Int × Int)) (num den : Int) (f wf M : Int) (s : Cq) (m : Int) : Prop :=
  ∃ l wl p : Int, (l, wl) ∈ P ∧ lagO s.D l < 0 ∧ lagO s.D f = p * sz ∧ 1 ≤ p ∧
    (p - 1) * (turnT P f wf * ((keepK num den + 1) * M)) + (trn sz P (eff s.C) f - 1) * ((keepK num den + 1) * M) + (potQ sz num den (cntO s.n l) - 1) * M + trn sz P (lagO s.R.L) l ≤ m
theorem Pot.pos {f wf M m : Int} (hPk : PtOk P) (hs : 1 ≤ sz) (hn : 0 < num) (hd : num < den) (hM : 0 ≤ M) (hwf : 1 ≤ wf) (h : Pot sz P num den f wf M s m) : 1 ≤ m := by
  obtain ⟨l, wl, p, _, _, _, hp, hm⟩ := h
  have hcp : ∀ p ∈ P, 0 < cst sz p.2 := fun p hp => by have := hPk.rng p hp; exact cst_pos hs this.2.2.1 this.2.2.2
  have hdp : 0 < sz * (den - num) := Int.mul_pos (by omega) (by omega)
  have h1 := trn_pos (v := eff s.C) (l := f) hcp
  have h2 := trn_pos (v := lagO s.R.L) (l := l) hcp
  have h3 := potQ_pos (c := cntO s.n l) hdp
  have hk : 0 ≤ keepK num den := by
    have := Int.ediv_nonneg (show 0 ≤ num by omega) (show 0 ≤ den - num by omega)
    unfold keepK; omega
  have hT : 0 ≤ turnT P f wf := by
    unfold turnT
    have := sumI_nn (l := P.map fun p => if p.1 = f then (0 : Int) else p.2 / wf + 1) fun x hx => by
      obtain ⟨q, hq, rfl⟩ := List.mem_map.1 hx
      split
      · omega
      · have := hPk.rng q hq
        have := Int.ediv_nonneg (show 0 ≤ q.2 by omega) (show 0 ≤ wf by omega)
        omega
    omega
  have a1 : 0 ≤ (keepK num den + 1) * M := Int.mul_nonneg (by omega) hM
  have a2 : 0 ≤ (p - 1) * (turnT P f wf * ((keepK num den + 1) * M)) := Int.mul_nonneg (by omega) (Int.mul_nonneg hT a1)
  have a3 : 0 ≤ (trn sz P (eff s.C) f - 1) * ((keepK num den + 1) * M) := Int.mul_nonneg (by omega) a1
  have a4 : 0 ≤ (potQ sz num den (cntO s.n l) - 1) * M := Int.mul_nonneg (by omega) hM
  omega
/-- A leading flow's share of the potential. -/
theorem lead_pot {M : Int} (h : DInv sz P num den s) (hI : CqInv i m N s) (hPk : PtOk P) (hs : 1 ≤ sz) (hn : 0 < num) (hd : num < den) (hM : ∀ p ∈ P, turnT P p.1 p.2 ≤ M) {l wl : Int} (hl : (l, wl) ∈ P) :
    (potQ sz num den (cntO s.n l) - 1) * M + trn sz P (lagO s.R.L) l ≤ (keepK num den + 1) * M ∧ trn sz P (lagO s.R.L) l ≤ M := by
  have hP : P.map (·.1) = s.R.L.map (·.f) := by rw [← ptsOf_f, h.pts]
  have hr := hPk.rng _ hl
  dsimp only at hr
  have hb : trn sz P (lagO s.R.L) l ≤ M := by
    refine Int.le_trans (trn_bound (base := s.R.tm) hs hPk ⟨hr.2.2.1, hr.2.2.2⟩ (h.ts _ hl) fun p hp => ?_) (hM _ hl)
    have hpf : p.1 ∈ s.R.L.map (·.f) := by rw [← hP]; exact List.mem_map.2 ⟨p, hp, rfl⟩
    obtain ⟨t, ht⟩ := fget_of_f hpf
    rw [lagO_get ht]
    exact (hI.t.act t (fget_some ht).1).1
  have hcp : ∀ p ∈ P, 0 < cst sz p.2 := fun p hp => by have := hPk.rng p hp; exact cst_pos hs this.2.2.1 this.2.2.2
  have h2 := trn_pos (v := lagO s.R.L) (l := l) hcp
  have hq := potQ_le hn hd hs (h.kp l)
  have := Int.mul_le_mul_of_nonneg_right (show potQ sz num den (cntO s.n l) - 1 ≤ keepK num den by omega) (show 0 ≤ M by omega)
  rw [Int.add_mul]
  exact ⟨by omega, hb⟩
theorem comp_turn {f wf : Int} (h : DInv sz P num den s) (hPk : PtOk P) (hs : 1 ≤ sz) (hf : (f, wf) ∈ P) : trn sz P (eff s.C) f ≤ turnT P f wf := by
  have hr := hPk.rng _ hf
  dsimp only at hr
  refine trn_bound (base := s.C.tm) hs hPk ⟨hr.2.2.1, hr.2.2.2⟩ ?_ fun p hp => ?_
  · have := h.te _ hf
    have := cst_pos hs hr.2.2.1 hr.2.2.2
    unfold eff; dsimp only at *; omega
  · unfold eff; omega
theorem pot_start {M : Int} {f wf p : Int} (h : DInv sz P num den s) (hI : CqInv i m N s) (hPk : PtOk P) (hs : 1 ≤ sz) (hn : 0 < num) (hd : num < den) (hM : ∀ p ∈ P, turnT P p.1 p.2 ≤ M) (hf : (f, wf) ∈ P)
    (hp : lagO s.D f = p * sz) (hp1 : 1 ≤ p) : Pot sz P num den f wf M s (p * (turnT P f wf * ((keepK num den + 1) * M))) := by
  have hpos : 0 < lagO s.D f := by rw [hp]; exact Int.mul_pos (by omega) (by omega)
  obtain ⟨l, hl, hneg⟩ := ex_lead hI.lg hI.sum hpos
  rw [hI.fl, ← ptsOf_f, h.pts] at hl
  obtain ⟨⟨l', wl⟩, hl2, rfl⟩ := List.mem_map.1 hl
  obtain ⟨h1, h2⟩ := lead_pot h hI hPk hs hn hd hM hl2
  have hcp : ∀ p ∈ P, 0 < cst sz p.2 := fun p hp => by have := hPk.rng p hp; exact cst_pos hs this.2.2.1 this.2.2.2
  have hB := trn_pos (v := lagO s.R.L) (l := l') hcp
  have hK : 0 ≤ (keepK num den + 1) * M := by
    have := Int.ediv_nonneg (show 0 ≤ num by omega) (show 0 ≤ den - num by omega)
    exact Int.mul_nonneg (by unfold keepK; omega) (by omega)
  refine ⟨l', wl, p, hl2, hneg, hp, hp1, ?_⟩
  have h3 := Int.mul_le_mul_of_nonneg_right (show trn sz P (eff s.C) f - 1 ≤ turnT P f wf - 1 by have := comp_turn h hPk hs hf; omega) hK
  have e1 : p * (turnT P f wf * ((keepK num den + 1) * M)) = (p - 1) * (turnT P f wf * ((keepK num den + 1) * M)) + turnT P f wf * ((keepK num den + 1) * M) := by rw [Int.sub_mul]; omega
  rw [Int.sub_mul (turnT P f wf), Int.one_mul] at h3
  rw [e1]
  omega
end
end Go.Proofs.YtjpahfkchhnpoaaGreat

/- Cifq, plain: a leading flow keeps its part. -/
namespace Go.Proofs.YtjpahfkchhnpoaaGreat
open Go.RowKit
open SP
section
variable {i m N : Nat} {s : Cq} {num den reb : Int} {H : List Head}

/-- The counts stay near the part. -/
def LB (num den : Int) (s : Cq) : Prop := ∀ f, -(num * 4096) ≤ pOf num den (cntO s.n f) ∧ pOf num den (cntO s.n f) ≤ 4096 * (den - num)
theorem pOf_keep (c : Int × Int) (len : Int) : pOf num den (c.1 + len, c.2 + len) = pOf num den c + len * (den - num) := by
  unfold pOf
  dsimp only
  rw [Int.add_mul, Int.mul_add, Int.mul_sub, Int.mul_comm num len]
  omega
theorem pOf_give (c : Int × Int) (len : Int) : pOf num den (c.1 + len, c.2) = pOf num den c - num * len := by
  unfold pOf
  dsimp only
  rw [Int.mul_add]; omega
theorem lagH_pos {D : List Tg} (hm : H.map (·.f) = D.map (·.f)) {p : Int × Int} (hp : p ∈ lagH D H) : 0 < lagO D p.1 := by
  unfold lagH pickH at hp
  obtain ⟨x, hx, rfl⟩ := List.mem_map.1 hp
  obtain ⟨hz, hg⟩ := List.mem_filter.1 hx
  obtain ⟨q, hq⟩ := List.getElem?_of_mem hz
  rw [List.getElem?_zip_eq_some] at hq
  have h1 : (H.map (·.f))[q]? = some x.1.f := by rw [List.getElem?_map, hq.1]; rfl
  have h2 : (D.map (·.f))[q]? = some x.2.1 := by
    rw [← ptsOf_f, List.getElem?_map, hq.2]; rfl
  rw [hm, h2] at h1
  have e : x.2.1 = x.1.f := Option.some.inj h1
  rw [Bool.and_eq_true, decide_eq_true_eq] at hg
  rw [e]; exact hg.2
/-- What a slot does to a flow's counts. -/
theorem lb_step (h : CqInv i m N s) (hi : i ≤ 299) (hN : N ≤ 1000000) (hf : fitsH s.R.L H = true) (hne : H ≠ []) (hn : 0 < num) (hd : num < den) (hb : LB num den s) : LB num den (stepC num den reb s H).2.2 := by
  have h0 : LB num den { s with n := [] } := fun f => by
    show -(num * 4096) ≤ pOf num den (0, 0) ∧ pOf num den (0, 0) ≤ _
    have := Int.mul_pos (show (0 : Int) < 4096 by omega) (show 0 < den - num by omega)
    have := Int.mul_pos hn (show (0 : Int) < 4096 by omega)
    unfold pOf; dsimp only; omega
  obtain ⟨c, hc⟩ : ∃ c, chooseC num den { s with C := eligO s.C (lagH s.D H), X := eligO s.X (allH s.D H) } H (!(allH s.D H).isEmpty) = c := ⟨_, rfl⟩
  obtain ⟨f1, _⟩ := fits_facts hf
  obtain ⟨oC, _, eC, _, h5⟩ := h.step hi hN num den reb hf hne rfl rfl hc
  rcases h5 with ⟨_, e, _⟩ | ⟨j, why, len, hcc, hj0, _, _, l1, l2, hway, e, _⟩
  · rw [e]; exact hb
  · rw [e]
    subst hcc
    intro f
    show -(num * 4096) ≤ pOf num den (cntO (resetC (nMove s.D (lst s.R.L).f j len).2 _) f) ∧ pOf num den (cntO (resetC (nMove s.D (lst s.R.L).f j len).2 _) f) ≤ _
    rw [cnt_next]
    split
    · split
      · rename_i hcb
        rw [cnt_bump]
        dsimp only
        split
        · have hk := hb (lst s.R.L).f
          have m1 := Int.mul_le_mul_of_nonneg_left l2 (show 0 ≤ num by omega)
          have m2 := Int.mul_le_mul_of_nonneg_right l2 (show 0 ≤ den - num by omega)
          have m3 := Int.mul_nonneg (show 0 ≤ len by omega) (show 0 ≤ den - num by omega)
          have m4 := Int.mul_nonneg (show 0 ≤ num by omega) (show 0 ≤ len by omega)
          unfold countC at hcb
          dsimp only at hcb
          rw [Bool.and_eq_true, Bool.or_eq_true, Bool.and_eq_true, decide_eq_true_eq, decide_eq_true_eq, decide_eq_true_eq] at hcb
          rcases hcb.2 with hw | ⟨hw1, hkk⟩
          · have hw2 : why = 2 := hw
            subst hw2
            have hp0 : ¬ pOf num den (cntO s.n (lst s.R.L).f) ≤ 0 := fun hle => by
              have := (keeps_iff (num := num) (den := den) (cntO s.n (lst s.R.L).f)).2 hle
              rw [(choose_why2 hc).2] at this; cases this
            split
            · rename_i hkj
              exfalso
              -- the order serves a lagging flow
              have hl := (choose_why2 hc).1
              have hjl : j = leastF (eligO s.C (lagH s.D H)).el (eligO s.C (lagH s.D H)).tg := by
                rcases hway with ⟨hw1, _⟩ | ⟨_, hj⟩ | ⟨hw1, _⟩
                · omega
                · exact hj
                · omega
              have hmem := oC.least (by rw [← hjl]; exact hj0)
              rw [← hjl, eC] at hmem
              obtain ⟨p, hp, hpj⟩ := List.mem_map.1 hmem
              have := lagH_pos (f1.trans h.fl.symm) hp
              rw [hpj, ← hkj] at this
              dsimp only at hl
              omega
            · rw [pOf_give]; omega
          · have hle := (keeps_iff (num := num) (den := den) (cntO s.n (lst s.R.L).f)).1 hkk
            split
            · rw [pOf_keep]; omega
            · rename_i hkj
              rcases hway with ⟨_, hj⟩ | ⟨hw2, _⟩ | ⟨hw2, _⟩
              · exact absurd hj.symm hkj
              · omega
              · omega
        · exact hb f
      · exact hb f
    · exact h0 f
/-- A slot in which the flow leads and can send: what it was charged and what it got since an interval began. -/
theorem lead_step (h : CqInv i m N s) (hi : i ≤ 299) (hN : N ≤ 1000000) (hf : fitsH s.R.L H = true) (hne : H ≠ []) (hn : 0 < num) (hd : num < den) (hb : LB num den s) {f : Int} (hl : lagO s.D f < 0) (hg : (headOf H f).good = true)
    {ch re : Int} (hq : pOf num den (cntO s.n f) - 4096 * (den - num) ≤ pOf num den (ch, re)) {c : Chc} (hc : (stepC num den reb s H).1 = c) (hsv : 0 ≤ c.sv) :
    -(4096 * den) ≤ pOf num den (if c.ch = f then ch + (headOf H c.sv).len else ch, if c.sv = f then re + (headOf H f).len else re) ∧
      (lagO (stepC num den reb s H).2.2.D f < 0 → pOf num den (cntO (stepC num den reb s H).2.2.n f) - 4096 * (den - num) ≤ pOf num den (if c.ch = f then ch + (headOf H c.sv).len else ch, if c.sv = f then re + (headOf H f).len else re)) := by
  obtain ⟨f1, _⟩ := fits_facts hf
  have hL : s.R.L ≠ [] := fun e => by rw [e] at f1; simp at f1; exact hne f1
  obtain ⟨c0, hc0⟩ : ∃ c0, chooseC num den { s with C := eligO s.C (lagH s.D H), X := eligO s.X (allH s.D H) } H (!(allH s.D H).isEmpty) = c0 := ⟨_, rfl⟩
  obtain ⟨oC, _, eC, _, h5⟩ := h.step hi hN num den reb hf hne rfl rfl hc0
  rcases h5 with ⟨_, e, _⟩ | ⟨j, why, len, hcc, hj0, hlen, _, l1, l2, hway, e, _⟩
  · rw [e] at hc
    dsimp only at hc
    rw [← hc] at hsv
    exact absurd hsv (by decide)
  · rw [e] at hc
    dsimp only at hc
    rw [hcc] at hc
    rw [e]
    subst hc
    dsimp only
    rw [hlen]
    have hdp : 0 < 4096 * (den - num) := Int.mul_pos (by omega) (by omega)
    have hnp : 0 < num * 4096 := Int.mul_pos hn (by omega)
    have e4 : 4096 * den = num * 4096 + 4096 * (den - num) := by rw [Int.mul_sub, Int.mul_comm num]; omega
    have hbf := hb f
    have hnx : pOf num den (cntO (nextC num den reb s (eligO s.C (lagH s.D H)) (eligO s.X (allH s.D H)) c0 len).n f) = (if lagO (nMove s.D c0.ch c0.sv len).2 f < 0 then pOf num den (cntO (if countC num den s c0 = true then bumpC s.n c0 len else s.n) f) else 0) := by
      show pOf num den (cntO (resetC (nMove s.D c0.ch c0.sv len).2 _) f) = _
      rw [cnt_next]
      split
      · rfl
      · unfold pOf; dsimp only; omega
    rw [hnx]
    -- the counts before those of flows that no longer lead go
    have key : (-(num * 4096) ≤ pOf num den (cntO (if countC num den s c0 = true then bumpC s.n c0 len else s.n) f)) ∧
        pOf num den (cntO (if countC num den s c0 = true then bumpC s.n c0 len else s.n) f) - 4096 * (den - num) ≤ pOf num den (if (lst s.R.L).f = f then ch + len else ch, if j = f then re + (headOf H f).len else re) := by
      have m2 := Int.mul_nonneg (show 0 ≤ len by omega) (show 0 ≤ den - num by omega)
      have m4 := Int.mul_nonneg (show 0 ≤ num by omega) (show 0 ≤ len by omega)
      have m5 := Int.mul_le_mul_of_nonneg_left l2 (show 0 ≤ num by omega)
      by_cases hk : (lst s.R.L).f = f
      · rw [if_pos hk]
        have hcho := hc0
        unfold chooseC at hcho
        dsimp only at hcho
        rw [(selT_mem hL).1, hk] at hcho
        dsimp only at hcho
        rw [hg, hcc] at hcho
        have hway2 : (why = 1 ∧ j = f) ∨ (why = 2 ∧ keepsO num den (cntO s.n f) = false ∧ j ≠ f) := by
          by_cases hw2 : why = 2
          · right
            have hc2 := hc0
            rw [hcc, hw2] at hc2
            have h9 := choose_why2 hc2
            rw [hk] at h9
            refine ⟨hw2, h9.2, fun hjf => ?_⟩
            have hjl : j = leastF (eligO s.C (lagH s.D H)).el (eligO s.C (lagH s.D H)).tg := by
              rcases hway with ⟨hw1, _⟩ | ⟨_, hj⟩ | ⟨hw1, _⟩
              · omega
              · exact hj
              · omega
            have hmem := oC.least (by rw [← hjl]; exact hj0)
            rw [← hjl, eC] at hmem
            obtain ⟨p, hp, hpj⟩ := List.mem_map.1 hmem
            have := lagH_pos (f1.trans h.fl.symm) hp
            rw [hpj, hjf] at this
            omega
          · left
            rcases hway with ⟨hw1, hj⟩ | ⟨hw1, _⟩ | ⟨hw1, _⟩
            · exact ⟨hw1, hj.trans hk⟩
            · exfalso
              have hw3 : why = 3 := by omega
              split at hcho
              · have := congrArg Chc.why hcho; dsimp only at this; omega
              · split at hcho
                · have := congrArg Chc.why hcho; dsimp only at this; simp at this; omega
                · have := congrArg Chc.why hcho; simp at this; omega
            · exfalso
              split at hcho
              · have := congrArg Chc.why hcho; dsimp only at this; omega
              · split at hcho
                · have := congrArg Chc.why hcho; dsimp only at this; simp at this; omega
                · have := congrArg Chc.why hcho; simp at this; omega
        have hld : decide (lagO s.D f < 0) = true := by simpa using hl
        rcases hway2 with ⟨hw1, hj⟩ | ⟨hw2, hkp, hjf⟩
        · rw [if_pos hj]
          rw [hj] at hlen
          rw [hlen]
          have hpk := pOf_keep (num := num) (den := den) (ch, re) len
          dsimp only at hpk
          rw [hpk]
          cases hkk : keepsO num den (cntO s.n f) with
          | true =>
            have hcb : countC num den s c0 = true := by rw [hcc]; unfold countC; dsimp only; rw [hk, hld, hw1, hkk]; rfl
            have hle := (keeps_iff (num := num) (den := den) (cntO s.n f)).1 hkk
            rw [if_pos hcb, cnt_bump, hcc]
            dsimp only
            rw [if_pos hk.symm, if_pos (hk.trans hj.symm), hk, pOf_keep]
            omega
          | false =>
            have hcb : countC num den s c0 = false := by rw [hcc]; unfold countC; dsimp only; rw [hk, hld, hw1, hkk]; rfl
            rw [if_neg (by rw [hcb]; simp)]
            omega
        · rw [if_neg hjf]
          have hcb : countC num den s c0 = true := by rw [hcc]; unfold countC; dsimp only; rw [hk, hld, hw2]; rfl
          have hp0 : ¬ pOf num den (cntO s.n f) ≤ 0 := fun hle => by
            have := (keeps_iff (num := num) (den := den) (cntO s.n f)).2 hle
            rw [hkp] at this; cases this
          have hpg := pOf_give (num := num) (den := den) (ch, re) len
          dsimp only at hpg
          rw [hpg, if_pos hcb, cnt_bump, hcc]
          dsimp only
          rw [if_pos hk.symm, if_neg (fun e => hjf (e.symm.trans hk)), hk, pOf_give]
          omega
      · rw [if_neg hk]
        have hsame : cntO (if countC num den s c0 = true then bumpC s.n c0 len else s.n) f = cntO s.n f := by
          split
          · rw [cnt_bump, hcc]; dsimp only; rw [if_neg (Ne.symm hk)]
          · rfl
        rw [hsame]
        have hup : pOf num den (ch, re) ≤ pOf num den (ch, if j = f then re + (headOf H f).len else re) := by
          split
          · rename_i hjf
            have hlf : (headOf H f).len = len := by rw [← hjf]; exact hlen
            rw [hlf]
            unfold pOf; dsimp only
            rw [Int.add_mul]
            have := Int.mul_nonneg (show 0 ≤ len by omega) (show 0 ≤ den by omega)
            omega
          · exact Int.le_refl _
        omega
    refine ⟨by omega, fun hl2 => ?_⟩
    change lagO (nMove s.D c0.ch c0.sv len).2 f < 0 at hl2
    rw [if_pos hl2]
    exact key.2
end
end Go.Proofs.YtjpahfkchhnpoaaGreat

/- The reference of cifq: a slot, plain: its new state. -/
namespace Go.Proofs.YtjpahfkchhnpoaaGreat
open Go.RowKit
open SP
section
variable {w w' : World} {R : List SP} {N M i m : Nat} {s : Cq} {g : KqG} {H : List Head}

theorem idxT_idxH {f : Int} : ∀ (j : Nat) (L : List Tg) (H : List Head), H.map (·.f) = L.map (·.f) → idxT f j L = idxH f j H
  | _, [], [], _ => rfl
  | j, t :: L, x :: H, h => by
    rw [List.map_cons, List.map_cons] at h
    have h1 : x.f = t.f := (List.cons.inj h).1
    have ih := idxT_idxH (f := f) (j + 1) L H (List.cons.inj h).2
    show (if t.f = f then (j : Int) else idxT f (j + 1) L) = if x.f = f then (j : Int) else idxH f (j + 1) H
    rw [h1, ih]
  | _, [], _ :: _, h => by simp at h
  | _, _ :: _, [], h => by simp at h
/-- What the choice says of the counted ways. -/
theorem count_way {num den reb : Int} (h : CqInv i m N s) (hi : i ≤ 299) (hN : N ≤ 1000000) (hf : fitsH s.R.L H = true) (hne : H ≠ []) {c : Chc} {C X : Ord}
    (hC : eligO s.C (lagH s.D H) = C) (hX : eligO s.X (allH s.D H) = X) (hc : chooseC num den { s with C := C, X := X } H (!(allH s.D H).isEmpty) = c) :
    countC num den s c = true → (c.why = 1 ↔ c.ch = c.sv) := by
  intro hcc
  obtain ⟨oC, oX, eC, eX, hst⟩ := h.step hi hN num den reb hf hne hC hX hc
  obtain ⟨f1, f2⟩ := fits_facts hf
  rcases hst with ⟨he, _⟩ | ⟨j, why, len, he, hj0, _, _, _, _, hw, _⟩
  · rw [he] at hcc
    unfold countC chIdle at hcc
    simp at hcc
  · subst he
    unfold countC at hcc
    simp only [Bool.and_eq_true, Bool.or_eq_true, decide_eq_true_eq] at hcc
    dsimp only
    rcases hw with ⟨h1, h2⟩ | ⟨h1 | h1, h2⟩ | ⟨h1, h2⟩
    · exact ⟨fun _ => h2.symm, fun _ => h1⟩
    · subst h1
      refine ⟨fun e => absurd e (by decide), fun e => ?_⟩
      exfalso
      have hl : 0 ≤ leastF C.el C.tg := by rw [← h2]; exact hj0
      have hm := oC.least hl
      rw [← h2, eC] at hm
      obtain ⟨p, hp, hpj⟩ := List.mem_map.1 hm
      have := lagH_pos (by rw [f1, h.fl]) hp
      rw [hpj, ← e] at this
      omega
    · subst h1; omega
    · subst h1; omega
/-- The new state's relation. -/
theorem next_rel {num den reb : Int} {C X : Ord} {c : Chc} {len : Int} {O' : List Tg} {tC tX : List Int} {S' : St} (hR : RelT M S' O') (hS : S' = (chargeR reb s.R c.ch len).2)
    (hC : CsRel (servC reb C X c len).2.1.el (servC reb C X c len).2.1.tg (servC reb C X c len).2.1.tm tC (servC reb C X c len).2.1.tm) (hX : CsRel (servC reb C X c len).2.2.el (servC reb C X c len).2.2.tg (servC reb C X c len).2.2.tm tX (servC reb C X c len).2.2.tm)
    {cs : List (Int × Int)} (hcs : cs.length = 32) (hcn : ∀ f : Nat, f < 32 → cs.getD f (0, 0) = cntO (if countC num den s c = true then bumpC s.n c len else s.n) (f : Int)) (hu : Uniq s.n) :
    KqRel M (nextC num den reb s C X c len) ⟨O', tC, tX, stlF (nMove s.D c.ch c.sv len).2 cs⟩ := by
  subst hS
  refine ⟨hR, hC, hX, stlF_len _ _, fun f hf => ?_⟩
  show (stlF (nMove s.D c.ch c.sv len).2 cs).getD f (0, 0) = cntO (resetC (nMove s.D c.ch c.sv len).2 (if countC num den s c = true then bumpC s.n c len else s.n)) (f : Int)
  have hu2 : Uniq (if countC num den s c = true then bumpC s.n c len else s.n) := by
    split
    · exact hu.mput _ _
    · exact hu
  rw [stlF_get _ _ hf, cntO_reset hu2, hcn f hf]
end
end Go.Proofs.YtjpahfkchhnpoaaGreat

/- Cifq: Join, SetWeight, Leave of the program. -/
namespace Go.Proofs.YtjpahfkchhnpoaaGreat
open Go.RowKit
open SP
section
variable {w w' : World} {R : List SP} {b rp lp cp xp nb N : Nat} {num den reb : Int} {s : Cq}

theorem cqJoin_spec (f wt : Int) (h2 : joinE s.R f wt = 0 → (nJoin s.D f wt).1 = 0) (o : Own w (CqF b num den reb N s :: R)) :
    Calls Tryz.prog 24 #[.pointer (some ⟨b, 0, none⟩), .int .i64 f, .int .i64 wt] w (Ret (.int .i64 (joinQ s f wt).1) (CqF b num den reb N (joinQ s f wt).2 :: R) w) := by
  unfold joinQ
  by_cases h1 : joinE s.R f wt = 0
  · rw [if_pos h1]
    exact cqJoin_ok f wt h1 (h2 h1) o
  · rw [if_neg h1]
    obtain ⟨rp, lp, cp, xp, nb, o1⟩ := CqF.iff.1 o
    have c2 := o1.cell 2
    have cl := o1.celLt
    have hq := sfqJoin_spec f wt (o1.re [1])
    unfold joinR at hq
    rw [if_neg h1] at hq
    have hne : (joinE s.R f wt == 0) = false := by simpa using h1
    dsimp only at hq ⊢
    obtain ⟨E, hE⟩ : ∃ E, joinE s.R f wt = E := ⟨_, rfl⟩
    rw [hE] at hq hne ⊢
    clear h1 h2 hE
    go_enter Tryz.func24, Tryz.ntmps24
    go_wp2_with fail
    refine hq.mono ?_
    rintro e1 w1 ⟨rfl, o2, k2⟩
    clear hq
    go_wp2
    go_ret
    exact ⟨rfl, CqF.iff.2 ⟨rp, lp, cp, xp, nb, o2.re [1, 0]⟩, k2⟩
theorem cqSetW_spec (f wt : Int) (o : Own w (CqF b num den reb N s :: R)) :
    Calls Tryz.prog 28 #[.pointer (some ⟨b, 0, none⟩), .int .i64 f, .int .i64 wt] w (Ret (.int .i64 (setWQ s f wt).1) (CqF b num den reb N (setWQ s f wt).2 :: R) w) := by
  obtain ⟨rp, lp, cp, xp, nb, o1⟩ := CqF.iff.1 o
  have c2 := o1.cell 2
  have cl := o1.celLt
  have hq := sfqSetW_spec f wt (o1.re [1])
  unfold setWQ
  obtain ⟨E, hE⟩ : ∃ E, (setWR s.R f wt).1 = E := ⟨_, rfl⟩
  obtain ⟨S2, hS2⟩ : ∃ S2, (setWR s.R f wt).2 = S2 := ⟨_, rfl⟩
  rw [hE, hS2] at hq
  rw [hE, hS2]
  clear hE hS2
  by_cases h1 : E = 0
  · rw [if_pos h1]
    subst h1
    go_enter Tryz.func28, Tryz.ntmps28
    go_wp2_with fail
    refine hq.mono ?_
    rintro e1 w1 ⟨rfl, o2, k2⟩
    clear hq c2 cl o1
    have c3 := (o2.up 1).cell 3
    have cl := (o2.up 1).celLt
    have hq := lagSetw_spec f wt (o2.re [2])
    go_wp2_with fail
    refine hq.mono ?_
    rintro e3 w3 ⟨rfl, o3, k3⟩
    go_wp2
    go_ret
    exact ⟨rfl, CqF.iff.2 ⟨rp, lp, cp, xp, nb, o3.re [2, 1, 0]⟩, k2.trans k3⟩
  · rw [if_neg h1]
    have hne : (E == 0) = false := by simpa using h1
    clear h1
    go_enter Tryz.func28, Tryz.ntmps28
    go_wp2_with fail
    refine hq.mono ?_
    rintro e1 w1 ⟨rfl, o2, k2⟩
    clear hq
    go_wp2
    go_ret
    exact ⟨rfl, CqF.iff.2 ⟨rp, lp, cp, xp, nb, o2.re [1, 0]⟩, k2⟩
set_option maxHeartbeats 1600000 in
set_option maxRecDepth 100000 in
theorem cqLeave_spec (f : Int) (hN : (N : Int) ≤ 1000000000000) (hu : Uniq s.n) (o : Own w (CqF b num den reb N s :: R)) :
    Calls Tryz.prog 26 #[.pointer (some ⟨b, 0, none⟩), .int .i64 f] w (Ret (.tuple #[.int .i64 (leaveQ s f).1.1, .int .i64 (leaveQ s f).1.2]) (CqF b num den reb N (leaveQ s f).2 :: R) w) := by
  obtain ⟨rp, lp, cp, xp, nb, o1⟩ := CqF.iff.1 o
  have c2 := o1.cell 2
  have cl := o1.celLt
  have hq := sfqLeave_spec f (o1.re [1])
  unfold leaveQ
  cases hf : fget s.R.L f with
  | none =>
    have e2 : leaveR s.R f = (6, s.R) := by unfold leaveR; rw [hf]
    rw [e2] at hq
    rw [if_pos rfl]
    clear hf e2
    go_enter Tryz.func26, Tryz.ntmps26
    go_wp2_with fail
    refine hq.mono ?_
    rintro e1 w1 ⟨rfl, o2, k2⟩
    go_wp2
    go_ret2
    exact ⟨rfl, CqF.iff.2 ⟨rp, lp, cp, xp, nb, o2.re [1, 0]⟩, k2⟩
  | some t =>
    have e2 : leaveR s.R f = (0, leaveS s.R f t.s) := by unfold leaveR; rw [hf]
    rw [if_neg (by simp), e2]
    rw [e2] at hq
    dsimp only at hq
    clear hf e2
    go_enter Tryz.func26, Tryz.ntmps26
    go_wp2_with fail
    refine hq.mono ?_
    rintro e1 w1 ⟨rfl, o2, k2⟩
    clear hq c2 cl o1
    have c3 := (o2.up 1).cell 3
    have hl := lagLeave_spec f hN (o2.re [2])
    go_wp2_with fail
    refine hl.mono ?_
    rintro e2 w2 ⟨rfl, o3, k3⟩
    have c4 := (o3.up 2).cell 4
    have hc := forget_spec f (o3.re [4])
    clear hl c3
    go_wp2_with fail
    refine hc.mono ?_
    rintro e3 w3 ⟨rfl, o4, k4⟩
    have c5 := (o4.up 3).cell 5
    have hx := forget_spec f (o4.re [5])
    clear hc c4
    go_wp2_with fail
    refine hx.mono ?_
    rintro e4 w4 ⟨rfl, o5, k5⟩
    have hr := reset_spec hu (o5.re [4, 2, 5])
    clear hx c5
    go_wp2_with fail
    refine hr.mono ?_
    rintro e5 w5 ⟨rfl, o6, k6⟩
    go_wp2
    go_ret2
    exact ⟨rfl, CqF.iff.2 ⟨rp, lp, cp, xp, nb, o6.re [0, 5, 1, 2, 4, 3]⟩, k2.trans (k3.trans (k4.trans (k5.trans k6)))⟩
end
end Go.Proofs.YtjpahfkchhnpoaaGreat

/- Cifq: what all the calls of a script keep, plain. -/
namespace Go.Proofs.YtjpahfkchhnpoaaGreat
open Go.RowKit
open SP
section
variable {i m N : Nat} {s : Cq} {g : KqG}

theorem fget_sync {D L : List Tg} (h : ptsOf D = ptsOf L) (f : Int) : (fget D f).map (fun t => (t.f, t.w)) = (fget L f).map (fun t => (t.f, t.w)) := by
  induction D generalizing L with
  | nil =>
    cases L with
    | nil => rfl
    | cons _ _ => simp [ptsOf] at h
  | cons d D ih =>
    cases L with
    | nil => simp [ptsOf] at h
    | cons t L =>
      unfold ptsOf at h
      rw [List.map_cons, List.map_cons, List.cons.injEq, Prod.mk.injEq] at h
      have ih := ih (L := L) h.2
      unfold fget at ih ⊢
      rw [List.find?_cons, List.find?_cons, ← h.1.1]
      cases d.f == f with
      | true => simp [h.1.1, h.1.2]
      | false => exact ih
theorem fget_sync_none {D L : List Tg} (h : ptsOf D = ptsOf L) {f : Int} (hf : fget L f = none) : fget D f = none := by
  have := fget_sync h f
  rw [hf] at this
  simpa using this
theorem fget_sync_some {D L : List Tg} (h : ptsOf D = ptsOf L) {f : Int} {t : Tg} (hf : fget L f = some t) : ∃ d, fget D f = some d ∧ d.w = t.w := by
  have := fget_sync h f
  rw [hf] at this
  cases hd : fget D f with
  | none => rw [hd] at this; simp at this
  | some d => rw [hd] at this; simp at this; exact ⟨d, rfl, this.2⟩
theorem delT_pts {D L : List Tg} (h : ptsOf D = ptsOf L) (f : Int) : ptsOf (delT f D) = ptsOf (delT f L) := by
  have key : ∀ M : List Tg, ptsOf (delT f M) = (ptsOf M).filter fun p => !(p.1 == f) := fun M => by
    unfold ptsOf delT
    rw [List.filter_map]; rfl
  rw [key, key, h]
theorem setT_pts2 {D L : List Tg} (h : ptsOf D = ptsOf L) {x y : Tg} (h1 : x.f = y.f) (h2 : x.w = y.w) : ptsOf (setT x D) = ptsOf (setT y L) := by
  have key : ∀ (z : Tg) (M : List Tg), ptsOf (setT z M) = (ptsOf M).map fun p => if p.1 = z.f then (z.f, z.w) else p := fun z M => by
    unfold ptsOf setT
    rw [List.map_map, List.map_map]
    refine List.map_congr_left fun t _ => ?_
    show ((if t.f = z.f then z else t).f, (if t.f = z.f then z else t).w) = if t.f = z.f then (z.f, z.w) else (t.f, t.w)
    split <;> rfl
  rw [key, key, h, h1, h2]
theorem TInv.setW {S : St} (h : TInv i S) (f wt : Int) : TInv i (setWR S f wt).2 := by
  unfold setWR
  cases hf : fget S.L f with
  | none => exact h
  | some t =>
    dsimp only
    split
    · exact h
    · rename_i hb
      obtain ⟨h1, h2⟩ := fget_some hf
      have hr := h.ok.ok.rng t h1
      have ha := h.act t h1
      refine ⟨⟨h.ok.ok.set (x := ⟨t.f, wt, t.s⟩) ⟨hr.1, hr.2.1, by dsimp only; omega, by dsimp only; omega, hr.2.2.2.2.1, hr.2.2.2.2.2⟩, h.ok.old, h.ok.tm⟩, h.tm, fun u hu => ?_, h.old⟩
      rcases mem_setT hu with rfl | ⟨hu, _⟩
      · exact ha
      · exact h.act u hu
theorem CqInv.setW (h : CqInv i m N s) (f wt : Int) : CqInv i m N (setWQ s f wt).2 := by
  have hT := h.t.setW f wt
  unfold setWQ
  cases hf : fget s.R.L f with
  | none =>
    have e : setWR s.R f wt = (6, s.R) := by unfold setWR; rw [hf]
    rw [e]
    dsimp only
    rw [if_neg (by decide)]
    exact h
  | some t =>
    by_cases hb : wt < 1 ∨ 16 < wt
    · have e : setWR s.R f wt = (1, s.R) := by unfold setWR; rw [hf]; dsimp only; rw [if_pos hb]
      rw [e]
      dsimp only
      rw [if_neg (by decide)]
      exact h
    · have e : setWR s.R f wt = (0, { s.R with L := setT ⟨t.f, wt, t.s⟩ s.R.L }) := by unfold setWR; rw [hf]; dsimp only; rw [if_neg hb]
      rw [e] at hT ⊢
      dsimp only at hT ⊢
      rw [if_pos rfl]
      obtain ⟨h1, h2⟩ := fget_some hf
      obtain ⟨d, hd, hdw⟩ := fget_sync_some h.pts hf
      obtain ⟨d1, d2⟩ := fget_some hd
      refine ⟨hT, h.aw, ?_, nSetw_ok h.lg f wt, (nSetw_sum h.lg f wt).trans h.sum, h.c, h.x, h.nu, h.nv⟩
      have e : (nSetw s.D f wt).2 = setT ⟨f, wt, d.s⟩ s.D := by unfold nSetw; rw [hd]; dsimp only; rw [if_neg hb]
      dsimp only
      rw [e]
      exact setT_pts2 h.pts h2.symm rfl
theorem CqInv.joinQ (h : CqInv i m N s) (f wt : Int) : CqInv i m N (joinQ s f wt).2 := by
  unfold Go.Proofs.YtjpahfkchhnpoaaGreat.joinQ
  by_cases he : joinE s.R f wt = 0
  · rw [if_pos he]
    exact (h.join he).2
  · rw [if_neg he]
    exact h
theorem joinQ_zero (h : CqInv i m N s) (f wt : Int) : joinE s.R f wt = 0 → (nJoin s.D f wt).1 = 0 := fun he => (h.join he).1
theorem CqInv.leaveQ (h : CqInv i m N s) (f : Int) : CqInv i m N (leaveQ s f).2 := by
  unfold Go.Proofs.YtjpahfkchhnpoaaGreat.leaveQ
  cases hf : fget s.R.L f with
  | none => rw [if_pos rfl]; exact h
  | some t =>
    rw [if_neg (by simp)]
    obtain ⟨h1, h2⟩ := fget_some hf
    obtain ⟨d, hd, hdw⟩ := fget_sync_some h.pts hf
    have hT := h.t.leave f
    have e1 : (leaveR s.R f).2 = leaveS s.R f t.s := by unfold leaveR; rw [hf]
    have eL : (leaveR s.R f).2.L = delT f s.R.L := by
      rw [e1]; unfold leaveS
      split
      · rename_i hd; exact hd.symm
      · rfl
    have eA : (leaveR s.R f).2.aw = s.R.aw ∧ ((leaveR s.R f).2.tm = 0 ∨ (leaveR s.R f).2.tm = s.R.tm) := by
      rw [e1]; unfold leaveS
      split
      · exact ⟨rfl, .inl rfl⟩
      · exact ⟨rfl, .inr rfl⟩
    have haw := h.aw
    have htm := h.t.ok.tm
    refine ⟨hT, ?_, ?_, nLeave_ok h.lg f, nLeave_sum h.lg f h.sum, h.c.forget f, h.x.forget f, h.nu.filt _, fun y hy => h.nv y (List.mem_filter.1 hy).1⟩
    · dsimp only
      rw [eA.1]
      rcases eA.2 with e | e <;> (rw [e]; omega)
    · dsimp only
      rw [eL]
      have e : (nLeave s.D f).2 = addS (delT f s.D) (lagSplit d.s (wts (delT f s.D))) := by unfold nLeave; rw [hd]
      rw [e]
      have := addS_fw (delT f s.D) (lagSplit d.s (wts (delT f s.D)))
      unfold ptsOf
      rw [this]
      exact delT_pts h.pts f
end
end Go.Proofs.YtjpahfkchhnpoaaGreat

/- The references of iwfq and cifq: heads. -/
namespace Go.Proofs.YtjpahfkchhnpoaaGreat
open Go.RowKit
open SP
section
variable {w w' : World} {R : List SP} {b rb : Nat} {at_ now aw : Int} {L O : List Tg} {P Sp : SP} {S : St}

set_option maxHeartbeats 6400000 in
set_option maxRecDepth 100000 in
theorem headsOK_spec {a : Option Addr} {n c : Nat} {H : List Head} (h1 : HeadsAt Sp a H) (hn : n = H.length) (hl : L.length ≤ 1000) (o : Own w (RefT P rb at_ L O now aw :: P :: Sp :: R)) :
    Calls Tryz.prog 67 #[.pointer (some ⟨rb, 0, none⟩), .slice a n c] w (Ret (.bool (fitsH L H)) (RefT P rb at_ L O now aw :: P :: Sp :: R) w) := by
  rw [← fitsL_eq]
  obtain ⟨X, hX⟩ : ∃ X, fitsL H L = X := ⟨_, rfl⟩
  rw [hX]
  have HX := Lib.hid hX
  have Hn := Lib.hid hn
  obtain ⟨a1, c1, a2, c2, ⟨⟨hP, hs⟩, hc, hP2⟩, o1⟩ := RefT.iff.1 o
  have e1 := o1.cell 1
  by_cases hne : n = L.length
  · have HL := Lib.hid hne
    have hT : FitRel (RefT P rb at_ L O now aw) P H L (Sp :: R) w (.int .i64 0) w := ⟨0, rfl, by omega, rfl, o, Calm.refl w⟩
    have hb : ((n : Int) == (L.length : Int)) = true := by rw [hne]; simp
    have hb2 : ((n : Int) != (L.length : Int)) = false := by rw [hne]; simp
    clear hne hn hX o o1
    go_enter Tryz.func67, Tryz.ntmps67
    go_wp2
    go_loopw [5] (fun v wr => FitRel (RefT P rb at_ L O now aw) P H L (Sp :: R) w v wr) (fun v _ => n - (Lib.intOf v).toNat)
    case atStart => exact hT
    case round =>
      clear hT e1 hb hb2 hP2 hc hs hP
      obtain ⟨i, rfl, hi, hid, oR, kR⟩ := hrel
      have HI := Lib.hid hid
      clear hid
      by_cases hlt : i < n
      · obtain ⟨a1, c1, a2, c2, ⟨⟨hP, hs⟩, hc, hP2⟩, o1⟩ := RefT.iff.1 oR
        have e1 := o1.cell 1
        obtain ⟨h, hh⟩ : ∃ h, H[i]? = some h := ⟨_, List.getElem?_eq_getElem (by have := Hn.out; omega)⟩
        obtain ⟨t, ht⟩ : ∃ t, L[i]? = some t := ⟨_, List.getElem?_eq_getElem (by have := HL.out; omega)⟩
        obtain ⟨g, rfl, d0, d1, d2⟩ := h1 _ _ (oR.up 2) i _ hh
        obtain ⟨g', so, rfl, t0, t1, t2⟩ := hP _ _ (oR.up 1) i _ ht
        have HST := Lib.hid (fitsL_step hh ht)
        have hiL : i < L.length := (List.getElem?_eq_some_iff.1 ht).1
        clear hh ht hP2 hc hs hP
        have key : fit1 h t = true ∨ fit1 h t = false := by cases fit1 h t <;> simp
        rcases key with he | he
        · have hv : fitsL H L = fitsL (H.drop (i + 1)) (L.drop (i + 1)) := by rw [HI.out, HST.out, he]; rfl
          have HV := Lib.hid hv
          unfold fit1 at he
          simp only [Bool.and_eq_true, decide_eq_true_eq, beq_iff_eq] at he
          obtain ⟨g1, g2, g3⟩ := he
          have x1 : (h.f == t.f) = true := by simpa using g1
          have y1 : (h.f != t.f) = false := by simpa using g1
          have x2 : decide (h.len < 1) = false := decide_eq_false (by omega)
          have x3 : decide (4096 < h.len) = false := decide_eq_false (by omega)
          clear hv g1 g2 g3
          go_wp2
          go_quiet (fail)
          go_wp2
          go_roundw
          case rel => exact ⟨i + 1, by go_num, by have := Hn.out; omega, HV.out, oR.drewN _, ⟨kR.os, kR.tape, kR.output⟩⟩
          case measure => simp [Lib.intOf]; omega
        · have hv : X = false := by rw [← HX.out, HI.out, HST.out, he]; rfl
          have HV := Lib.hid hv
          unfold fit1 at he
          clear hv
          cases x1 : h.f == t.f with
          | false =>
            have y1 : (h.f != t.f) = true := by simpa using x1
            clear he
            go_wp2
            go_quiet (fail)
            go_wp2
            go_ret
            exact ⟨by rw [HV.out]; rfl, oR.drewN _, ⟨kR.os, kR.tape, kR.output⟩⟩
          | true =>
            have y1 : (h.f != t.f) = false := by simpa using x1
            by_cases g2 : h.len < 1
            · have x2 : decide (h.len < 1) = true := by simpa using g2
              clear he g2
              go_wp2
              go_quiet (fail)
              go_wp2
              go_ret
              exact ⟨by rw [HV.out]; rfl, oR.drewN _, ⟨kR.os, kR.tape, kR.output⟩⟩
            · have x2 : decide (h.len < 1) = false := by simpa using g2
              have x3 : decide (4096 < h.len) = true := by
                rw [x1, Bool.true_and, Bool.and_eq_false_iff, decide_eq_false_iff_not, decide_eq_false_iff_not] at he
                exact decide_eq_true (by omega)
              clear he g2
              go_wp2
              go_quiet (fail)
              go_wp2
              go_ret
              exact ⟨by rw [HV.out]; rfl, oR.drewN _, ⟨kR.os, kR.tape, kR.output⟩⟩
      · have hn := Hn.out
        have hn' := HL.out
        have hv : X = true := by
          rw [← HX.out, HI.out, List.drop_eq_nil_of_le (by omega), List.drop_eq_nil_of_le (by omega)]; rfl
        have HV := Lib.hid hv
        clear hv hn hn'
        go_wp2
        go_ret
        exact ⟨by rw [HV.out]; rfl, oR, kR⟩
  · have hv : X = false := by rw [← hX]; exact fitsL_len (by omega)
    have hb : ((n : Int) == (L.length : Int)) = false := by simpa using (by omega : ¬ (n : Int) = (L.length : Int))
    have hb2 : ((n : Int) != (L.length : Int)) = true := by simpa using (by omega : ¬ (n : Int) = (L.length : Int))
    have HV := Lib.hid hv
    clear hv hX hn hne
    go_enter Tryz.func67, Tryz.ntmps67
    go_wp2
    go_ret
    exact ⟨by rw [HV.out]; rfl, o, Calm.refl w⟩
end
end Go.Proofs.YtjpahfkchhnpoaaGreat

/- Cifq: a slot with heads that do not fit, or with none, on both sides. -/
namespace Go.Proofs.YtjpahfkchhnpoaaGreat
open Go.RowKit
open SP
section
variable {w w' : World} {R : List SP} {b rp lp cp xp nb N : Nat} {num den reb : Int} {P S Sp : SP} {s : Cq} {g : KqG} {St0 : St}

set_option maxHeartbeats 3200000 in
set_option maxRecDepth 100000 in
theorem equalFuncQ_short {a a' : Option Addr} {n c n' c' : Nat} (hne : n ≠ n') (w : World) :
    Calls Tryz.prog 85 #[.slice a n c, .slice a' n' c', .func (.func 86) #[] #[]] w (IsRet (.bool false) w) := by
  have hb : ((n : Int) == (n' : Int)) = false := by simpa using (by omega : ¬ (n : Int) = (n' : Int))
  have hb2 : ((n : Int) != (n' : Int)) = true := by simpa using (by omega : ¬ (n : Int) = (n' : Int))
  go_enter Tryz.func85, Tryz.ntmps85
  go_wp2
  go_ret
  exact ⟨rfl, rfl⟩
set_option maxHeartbeats 1600000 in
set_option maxRecDepth 100000 in
theorem fitsQ_short {a : Option Addr} {n c : Nat} (hne : n ≠ St0.L.length) (o : Own w (CqC b num den rp lp cp xp nb :: SfqR rp reb St0 :: R)) :
    Calls Tryz.prog 56 #[.pointer (some ⟨b, 0, none⟩), .slice a n c] w (Ret (.bool false) (CqC b num den rp lp cp xp nb :: SfqR rp reb St0 :: R) w) := by
  have c2 := o.cell 2
  have hlt := o.celLt
  have Hn := Lib.hid hne
  clear hne
  go_enter Tryz.func56, Tryz.ntmps56
  go_wp2_with fail
  refine (sfqTags_spec (o.re [1, 0])).mono ?_
  rintro e1 w1 ⟨a', c', rfl, o1, k1⟩
  have he := equalFuncQ_short (a := a) (c := c) (a' := a') (c' := c') Hn.out w1
  go_wp2_with fail
  refine he.mono ?_
  rintro e2 w2 ⟨rfl, rfl⟩
  clear he
  go_wp2
  go_ret
  exact ⟨rfl, o1.re [0, 2, 1] 1, k1⟩
/-- The heads of a slot: read behind Sp; or so many that nothing is read. -/
def KHds (L : List Tg) (Sp : SP) (a : Option Addr) (n : Nat) (H : List Head) : Prop := n ≤ 33 ∧ (n = H.length ∧ HeadsAt Sp a H ∨ n ≠ L.length ∧ fitsH L H = false)
theorem fitsQ_no {a : Option Addr} {n c : Nat} {H : List Head} (h : KHds St0.L Sp a n H) (hf : fitsH St0.L H = false) (o : Own w (CqC b num den rp lp cp xp nb :: SfqR rp reb St0 :: Sp :: R)) :
    Calls Tryz.prog 56 #[.pointer (some ⟨b, 0, none⟩), .slice a n c] w (Ret (.bool false) (CqC b num den rp lp cp xp nb :: SfqR rp reb St0 :: Sp :: R) w) := by
  obtain ⟨hl, ⟨hn, h1⟩ | ⟨hne, _⟩⟩ := h
  · have := fits_spec (c := c) h1 hn (by omega) o
    rw [hf] at this
    exact this
  · exact fitsQ_short hne o
set_option maxHeartbeats 3200000 in
set_option maxRecDepth 100000 in
theorem headsOKQ_short {L O : List Tg} {rb : Nat} {at_ now aw : Int} {a : Option Addr} {n c : Nat} (hne : n ≠ L.length) (o : Own w (RefT P rb at_ L O now aw :: R)) :
    Calls Tryz.prog 67 #[.pointer (some ⟨rb, 0, none⟩), .slice a n c] w (IsRet (.bool false) w) := by
  obtain ⟨a1, c1, a2, c2, _, o1⟩ := RefT.iff.1 o
  have e1 := o1.cell 1
  have hb : ((n : Int) == (L.length : Int)) = false := by simpa using (by omega : ¬ (n : Int) = (L.length : Int))
  have hb2 : ((n : Int) != (L.length : Int)) = true := by simpa using (by omega : ¬ (n : Int) = (L.length : Int))
  go_enter Tryz.func67, Tryz.ntmps67
  go_wp2
  go_ret
  exact ⟨rfl, rfl⟩
theorem headsOKQ_no {L O : List Tg} {rb : Nat} {at_ now aw : Int} {a : Option Addr} {n c : Nat} {H : List Head} (hL : L.length ≤ 32) (h : KHds L Sp a n H) (hf : fitsH L H = false) (o : Own w (RefT P rb at_ L O now aw :: P :: Sp :: R)) :
    Calls Tryz.prog 67 #[.pointer (some ⟨rb, 0, none⟩), .slice a n c] w (Ret (.bool false) (RefT P rb at_ L O now aw :: P :: Sp :: R) w) := by
  obtain ⟨hl, ⟨hn, h1⟩ | ⟨hne, _⟩⟩ := h
  · have := headsOK_spec (c := c) h1 hn (by omega) o
    rw [hf] at this
    exact this
  · refine (headsOKQ_short hne o).mono ?_
    rintro e w' ⟨rfl, rfl⟩
    exact ⟨rfl, o, Calm.refl _⟩

set_option maxHeartbeats 3200000 in
set_option maxRecDepth 100000 in
theorem stepQ_unfit {a : Option Addr} {n c : Nat} {H : List Head} (h1 : KHds St0.L Sp a n H) (hf : fitsH St0.L H = false) (o : Own w (CqC b num den rp lp cp xp nb :: SfqR rp reb St0 :: Sp :: R)) :
    Calls Tryz.prog 32 #[.pointer (some ⟨b, 0, none⟩), .slice a n c] w (Ret (.tuple #[chV ch0, .int .i64 1]) (CqC b num den rp lp cp xp nb :: SfqR rp reb St0 :: Sp :: R) w) := by
  have oA := (o.alloc (.cells #[.int .i64 0, .int .i64 0, .int .i64 0] 89)).alloc (.cells #[.int .i64 (-1), .int .i64 (-1), .int .i64 6] 89)
  simp only [World.size_alloc] at oA
  have hc := fitsQ_no (c := c) h1 hf (oA.re [2, 3, 4, 0, 1])
  clear hf h1
  go_enter Tryz.func32, Tryz.ntmps32
  go_wp2_with fail
  refine hc.mono ?_
  rintro e1 w1 ⟨rfl, o1, k1⟩
  clear hc
  have z0 := Own.cell (T := 89) (vs := [.int .i64 0, .int .i64 0, .int .i64 0]) (o1.up 4) 0
  have z1 := Own.cell (T := 89) (vs := [.int .i64 0, .int .i64 0, .int .i64 0]) (o1.up 4) 1
  have z2 := Own.cell (T := 89) (vs := [.int .i64 0, .int .i64 0, .int .i64 0]) (o1.up 4) 2
  have zf := Own.frozen (T := 89) (vs := [.int .i64 0, .int .i64 0, .int .i64 0]) (o1.up 4)
  have zl := Own.celLt (T := 89) (vs := [.int .i64 0, .int .i64 0, .int .i64 0]) (o1.up 4)
  have y5 := Own.setCell (T := 89) (vs := [.int .i64 0, .int .i64 0, .int .i64 0]) (o1.up 4) 0 (.int .i64 0)
  have y6 := Own.setCell (T := 89) (vs := [.int .i64 0, .int .i64 0, .int .i64 0]) y5 1 (.int .i64 0)
  have y7 := Own.setCell (T := 89) (vs := [.int .i64 0, .int .i64 0, .int .i64 0]) y6 2 (.int .i64 0)
  go_wp2
  refine bodyPost_ret (v := .tuple #[chV ⟨0, 0, 0⟩, .int .i64 1]) ?_ rfl ?_
  · exact chRow2 (p := w.heap.size) rfl rfl rfl y7
  · exact ⟨rfl, (y7.drop).re [3] 1, ⟨k1.os, k1.tape, k1.output⟩⟩

set_option maxHeartbeats 3200000 in
set_option maxRecDepth 100000 in
theorem refStepQ_unfit {a : Option Addr} {n c : Nat} {H : List Head} (hL : s.R.L.length ≤ 32) (h1 : KHds s.R.L Sp a n H) (hf : fitsH s.R.L H = false) (o : Own w (KqT P S b num den reb s g :: P :: S :: Sp :: R)) :
    Calls Tryz.prog 33 #[.pointer (some ⟨b, 0, none⟩), .slice a n c] w
      (Ret (.tuple #[chV ch0, .int .i64 1]) (KqT P S b num den reb s g :: P :: S :: Sp :: R) w) := by
  obtain ⟨rp, lp, cp, xp, o1⟩ := KqT.iff.1 o
  have oA := o1.alloc (.cells #[.int .i64 0, .int .i64 0, .int .i64 0] 89)
  have c3 := kq_ptr 3 o1 (.inl ⟨rfl, rfl⟩)
  have bl := o1.celLt
  have hhd := headsOKQ_no (c := c) hL h1 hf (oA.re [2, 6, 8])
  clear hf h1
  go_enter Tryz.func33, Tryz.ntmps33
  go_wp2_with fail
  refine hhd.mono ?_
  rintro e1 w1 ⟨rfl, o2, k2⟩
  clear hhd c3 bl
  have z0 := Own.cell (T := 89) (vs := [.int .i64 0, .int .i64 0, .int .i64 0]) (o2.up 3) 0
  have z1 := Own.cell (T := 89) (vs := [.int .i64 0, .int .i64 0, .int .i64 0]) (o2.up 3) 1
  have z2 := Own.cell (T := 89) (vs := [.int .i64 0, .int .i64 0, .int .i64 0]) (o2.up 3) 2
  have zf := Own.frozen (T := 89) (vs := [.int .i64 0, .int .i64 0, .int .i64 0]) (o2.up 3)
  have zl := Own.celLt (T := 89) (vs := [.int .i64 0, .int .i64 0, .int .i64 0]) (o2.up 3)
  have y5 := Own.setCell (T := 89) (vs := [.int .i64 0, .int .i64 0, .int .i64 0]) (o2.up 3) 0 (.int .i64 0)
  have y6 := Own.setCell (T := 89) (vs := [.int .i64 0, .int .i64 0, .int .i64 0]) y5 1 (.int .i64 0)
  have y7 := Own.setCell (T := 89) (vs := [.int .i64 0, .int .i64 0, .int .i64 0]) y6 2 (.int .i64 0)
  go_wp2
  refine bodyPost_ret (v := .tuple #[chV ⟨0, 0, 0⟩, .int .i64 1]) ?_ rfl ?_
  · exact chRow2 (p := w.heap.size) rfl rfl rfl y7
  · have oZ : Own _ (KqT P S b num den reb s g :: _) := KqT.iff.2 ⟨rp, lp, cp, xp, y7.drop.re [3, 0, 4, 5, 6]⟩
    exact ⟨rfl, oZ.re [0, 1, 3], qcalm_set (qcalm_set (qcalm_set ((qcalm_alloc (Calm.refl w)).trans k2)))⟩

set_option maxHeartbeats 3200000 in
set_option maxRecDepth 100000 in
theorem refStepQ_empty {a : Option Addr} {c : Nat} (hL0 : s.R.L = []) (o : Own w (KqT P S b num den reb s g :: P :: S :: Sp :: R)) :
    Calls Tryz.prog 33 #[.pointer (some ⟨b, 0, none⟩), .slice a 0 c] w
      (Ret (.tuple #[chV ch0, .int .i64 5]) (KqT P S b num den reb s g :: P :: S :: Sp :: R) w) := by
  obtain ⟨rp, lp, cp, xp, o1⟩ := KqT.iff.1 o
  have oA := o1.alloc (.cells #[.int .i64 0, .int .i64 0, .int .i64 0] 89)
  have c3 := kq_ptr 3 o1 (.inl ⟨rfl, rfl⟩)
  have bl := o1.celLt
  have hhd := headsOK_spec (a := a) (c := c) (n := 0) (H := []) (Sp := Sp) (fun w R _ i h e => by simp at e) rfl (by rw [hL0]; exact Nat.zero_le _) (oA.re [2, 6, 8])
  have hfit : fitsH s.R.L [] = true := by rw [hL0]; rfl
  rw [hfit] at hhd
  clear hfit hL0
  go_enter Tryz.func33, Tryz.ntmps33
  go_wp2_with fail
  refine hhd.mono ?_
  rintro e1 w1 ⟨rfl, o2, k2⟩
  clear hhd c3 bl
  have z0 := Own.cell (T := 89) (vs := [.int .i64 0, .int .i64 0, .int .i64 0]) (o2.up 3) 0
  have z1 := Own.cell (T := 89) (vs := [.int .i64 0, .int .i64 0, .int .i64 0]) (o2.up 3) 1
  have z2 := Own.cell (T := 89) (vs := [.int .i64 0, .int .i64 0, .int .i64 0]) (o2.up 3) 2
  have zf := Own.frozen (T := 89) (vs := [.int .i64 0, .int .i64 0, .int .i64 0]) (o2.up 3)
  have zl := Own.celLt (T := 89) (vs := [.int .i64 0, .int .i64 0, .int .i64 0]) (o2.up 3)
  have y5 := Own.setCell (T := 89) (vs := [.int .i64 0, .int .i64 0, .int .i64 0]) (o2.up 3) 0 (.int .i64 0)
  have y6 := Own.setCell (T := 89) (vs := [.int .i64 0, .int .i64 0, .int .i64 0]) y5 1 (.int .i64 0)
  have y7 := Own.setCell (T := 89) (vs := [.int .i64 0, .int .i64 0, .int .i64 0]) y6 2 (.int .i64 0)
  go_wp2
  refine bodyPost_ret (v := .tuple #[chV ⟨0, 0, 0⟩, .int .i64 5]) ?_ rfl ?_
  · exact chRow2 (p := w.heap.size) rfl rfl rfl y7
  · have oZ : Own _ (KqT P S b num den reb s g :: _) := KqT.iff.2 ⟨rp, lp, cp, xp, y7.drop.re [3, 0, 4, 5, 6]⟩
    exact ⟨rfl, oZ.re [0, 1, 3], qcalm_set (qcalm_set (qcalm_set ((qcalm_alloc (Calm.refl w)).trans k2)))⟩
end
end Go.Proofs.YtjpahfkchhnpoaaGreat
