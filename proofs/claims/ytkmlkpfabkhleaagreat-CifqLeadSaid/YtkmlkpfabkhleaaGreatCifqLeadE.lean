/- Texts that the law rests on, put together by a program. -/
import Derived.Test.YtkmlkpfabkhleaaGreatCifqLeadD
import Derived.Test.YtkmlkpfabkhleaaGreatCifqLeadA
import Derived.Test.YtkmlkpfabkhleaaGreatCifqLeadC
/- Cifq, plain: what the slots keep. -/
namespace Go.Proofs.YtkmlkpfabkhleaaGreat
open Go.RowKit
open SP

structure OInv (i : Nat) (o : Ord) : Prop where
  pts : PtOk o.el
  uniq : Uniq o.tg
  val : ∀ f, 0 ≤ tget o.tg f ∧ tget o.tg f ≤ i * 2952069120
  tm : 0 ≤ o.tm ∧ o.tm ≤ i * 2952069120
  low : ∀ p ∈ o.el, o.tm ≤ tget o.tg p.1
  up : ∀ f, tget o.tg f ≤ o.tm + 2952069120

theorem PtOk.sub {l m : List (Int × Int)} (h : PtOk l) (hm : m.Sublist l) : PtOk m :=
  ⟨h.asc.sublist hm, fun p hp => h.rng p (hm.subset hp), Nat.le_trans hm.length_le h.len⟩
theorem PtOk.nil : PtOk [] := ⟨.nil, by simp, by simp⟩
theorem PtOk.uniq {l : List (Int × Int)} (h : PtOk l) : Uniq l := by
  unfold Uniq
  show (l.map (·.1)).Pairwise (· ≠ ·)
  rw [List.pairwise_map]
  exact h.asc.imp fun h => by omega
theorem PtOk.key {l : List (Int × Int)} (h : PtOk l) : KeyOk l := ⟨h.uniq, fun x hx => by have := h.rng x hx; omega⟩
theorem PtOk.good {l : List (Int × Int)} (h : PtOk l) : eligBad (-1) l = false :=
  eligBad_ok l (-1) (by rw [List.pairwise_map]; exact h.asc) fun p hp => by have := h.rng p hp; omega
theorem OInv.start : OInv 0 ⟨[], [], 0⟩ := ⟨PtOk.nil, by simp [Uniq], fun f => by simp [tget, mget], by simp, by simp, fun f => by simp [tget, mget]⟩
theorem OInv.le {i j : Nat} {o : Ord} (h : OInv i o) (hj : i ≤ j) : OInv j o := by
  have hij : (i : Int) ≤ j := by omega
  exact ⟨h.pts, h.uniq, fun f => by have := h.val f; omega, by have := h.tm; omega, h.low, h.up⟩
/-- Tags that are near a small time. -/
theorem OInv.down {i : Nat} {o : Ord} (h : OInv i o) (ht : o.tm ≤ 2952069120) : OInv 2 o := by
  exact ⟨h.pts, h.uniq, fun f => by have := h.val f; have := h.up f; omega, by have := h.tm; omega, h.low, h.up⟩
theorem OInv.vals {i : Nat} {o : Ord} (h : OInv i o) : ∀ x ∈ o.tg, 0 ≤ x.2 ∧ x.2 ≤ i * 2952069120 := fun x hx => by
  rw [← tget_val h.uniq hx]; exact h.val x.1
theorem OInv.ok {i : Nat} {o : Ord} (h : OInv i o) (hi : i ≤ 370) : OrdOk o := by
  have hij : (i : Int) ≤ 370 := by omega
  exact ⟨h.pts.key, by have := h.pts.len; omega, h.uniq, fun x hx => by have := h.vals x hx; omega, by have := h.tm; omega⟩
theorem OInv.elig {i : Nat} {o : Ord} (h : OInv i o) {l : List (Int × Int)} (hl : PtOk l) : OInv i (eligO o l) := by
  unfold eligO
  have ht := h.tm
  refine ⟨by rw [eligEl_self hl.uniq]; exact hl, eligTg_uniq o.el o.tm l o.tg h.uniq, fun f => ?_, h.tm, fun p hp => ?_, fun f => ?_⟩
  · dsimp only
    rw [eligTg_get]
    have := h.val f
    split <;> omega
  · dsimp only at hp ⊢
    rw [eligEl_self hl.uniq] at hp
    rw [eligTg_get]
    split
    · omega
    · rename_i hn
      cases he : mget o.el p.1 with
      | none => exact absurd ⟨List.mem_map.2 ⟨p, hp, rfl⟩, he⟩ hn
      | some v => exact h.low (p.1, v) (mem_of_mget he)
  · dsimp only
    rw [eligTg_get]
    have := h.up f
    split <;> omega
theorem OInv.elig_el {i : Nat} {o : Ord} (_ : OInv i o) {l : List (Int × Int)} (hl : PtOk l) : (eligO o l).el = l := by
  unfold eligO; exact eligEl_self hl.uniq
theorem OInv.least {i : Nat} {o : Ord} (h : OInv i o) (hl : 0 ≤ leastF o.el o.tg) : leastF o.el o.tg ∈ o.el.map (·.1) := by
  rcases leastF_facts o.el o.tg (fun p hp => (h.pts.rng p hp).1) with ⟨_, h2⟩ | ⟨h1, _⟩
  · omega
  · exact h1
theorem OInv.least_nil {i : Nat} {o : Ord} (h : OInv i o) : leastF o.el o.tg < 0 ↔ o.el = [] := by
  rcases leastF_facts o.el o.tg (fun p hp => (h.pts.rng p hp).1) with ⟨h1, h2⟩ | ⟨h1, _⟩
  · exact ⟨fun _ => h1, fun _ => by omega⟩
  · obtain ⟨p, hp, he⟩ := List.mem_map.1 h1
    have := h.pts.rng p hp
    exact ⟨fun _ => by omega, fun e => by rw [e] at hp; cases hp⟩
/-- The least flow is served. -/
theorem OInv.serv {i : Nat} {o : Ord} (h : OInv i o) (hi : i ≤ 370) (reb : Int) {f len : Int} (hf : f = leastF o.el o.tg) (hf0 : 0 ≤ f) (h1 : 1 ≤ len) (h2 : len ≤ 4096) :
    ∃ wt, mget o.el f = some wt ∧ 1 ≤ wt ∧ wt ≤ 16 ∧ (servO reb o f len).1 = 0 ∧ OInv (i + 1) (servO reb o f len).2 ∧ (servO reb o f len).2.el = o.el ∧
      (∀ p ∈ o.el, tget o.tg f ≤ tget o.tg p.1) ∧ o.tm ≤ tget o.tg f ∧
      ∃ by_ : Int, 0 ≤ by_ ∧ by_ ≤ tget o.tg f ∧ (by_ = 0 ∧ tget o.tg f < reb ∨ by_ = tget o.tg f) ∧ (servO reb o f len).2.tm = tget o.tg f - by_ ∧
        ∀ g, tget (servO reb o f len).2.tg g = max ((if g = f then tget o.tg f + cst len wt else tget o.tg g) - by_) 0 := by
  have hij : (i : Int) ≤ 370 := by omega
  have hp0 : ∀ p ∈ o.el, 0 ≤ p.1 := fun p hp => (h.pts.rng p hp).1
  rcases leastF_facts o.el o.tg hp0 with ⟨_, he⟩ | ⟨hmem, hmin⟩
  · omega
  rw [← hf] at hmem hmin
  obtain ⟨wt, hwt⟩ := mget_isSome_of hmem
  have hin := mem_of_mget hwt
  have hw := h.pts.rng _ hin
  have hlow := h.low _ hin
  dsimp only at hw hlow
  have hg := h.val f
  have ht := h.tm
  have hel : tget o.el f = wt := by unfold tget; rw [hwt]; rfl
  obtain ⟨c1, c2⟩ := cst_range hw.2.2.1 hw.2.2.2 h1 h2
  have hfin : servFin o.el o.tg f len = (tget o.tg f + cst len wt, 0) := by
    unfold servFin finF
    rw [hel, if_neg (by unfold badLW; omega), if_neg (by omega)]
  have hE : servE o.el o.tg f len = 0 := by unfold servE; rw [hwt, hfin]; rfl
  have hTm : servTm o.tg o.tm f = tget o.tg f := by unfold servTm; omega
  have hTg : ∀ g, tget (servTg o.el o.tg f len) g = if g = f then tget o.tg f + cst len wt else tget o.tg g := fun g => by unfold servTg; rw [tget_mput, hfin]
  have hlow' : ∀ p ∈ o.el, tget o.tg f ≤ tget (servTg o.el o.tg f len) p.1 := fun p hp' => by
    rw [hTg]
    split
    · omega
    · exact hmin p hp'
  have hBy : servBy o.el o.tg o.tm f len = tget o.tg f := by
    unfold servBy
    rw [hTm]
    rcases leastF_facts o.el (servTg o.el o.tg f len) hp0 with ⟨he, _⟩ | ⟨hm2, _⟩
    · rw [he] at hin; cases hin
    · obtain ⟨q, hq, hqe⟩ := List.mem_map.1 hm2
      have := hlow' q hq
      rw [hqe] at this
      omega
  have hu1 : Uniq (servTg o.el o.tg f len) := h.uniq.mput _ _
  refine ⟨wt, hwt, hw.2.2.1, hw.2.2.2, ?_⟩
  unfold servO
  rw [if_neg (by rw [hE]; simp), hBy, hTm]
  by_cases hb : tget o.tg f < reb
  · rw [if_pos hb]
    refine ⟨rfl, ⟨h.pts, hu1, fun g => ?_, by show 0 ≤ tget o.tg f ∧ tget o.tg f ≤ ((i + 1 : Nat) : Int) * 2952069120; omega, hlow', fun g => ?_⟩, rfl, hmin, hlow, 0, by omega, hg.1, .inl ⟨rfl, hb⟩, by show tget o.tg f = _; omega, fun g => ?_⟩
    · have := h.val g
      dsimp only; rw [hTg]; push_cast
      split <;> omega
    · have := h.up g
      dsimp only; rw [hTg]
      split <;> omega
    · have := h.val g
      dsimp only; rw [hTg]
      split <;> omega
  · rw [if_neg hb]
    refine ⟨rfl, ⟨h.pts, hu1.lower _, fun g => ?_, by show 0 ≤ tget o.tg f - tget o.tg f ∧ tget o.tg f - tget o.tg f ≤ ((i + 1 : Nat) : Int) * 2952069120; omega, fun p hp => ?_, fun g => ?_⟩, rfl, hmin, hlow, tget o.tg f, hg.1, by omega, .inr rfl, rfl, fun g => ?_⟩
    · have := h.val g
      dsimp only; rw [tget_lower _ hg.1, hTg]; push_cast
      split <;> omega
    · have := hlow' p hp
      dsimp only; rw [tget_lower _ hg.1]; omega
    · have := h.up g
      dsimp only; rw [tget_lower _ hg.1, hTg]
      split <;> omega
    · dsimp only; rw [tget_lower _ hg.1, hTg]
theorem tget_mdel {m : List (Int × Int)} (hu : Uniq m) (f g : Int) : tget (mdel m f) g = if g = f then 0 else tget m g := by
  unfold tget
  rw [mdel_filtK f hu]
  induction m with
  | nil => simp [mget]
  | cons x m ih =>
    unfold Uniq at hu
    rw [List.map_cons, List.nodup_cons] at hu
    have ih := ih hu.2
    obtain ⟨k, v⟩ := x
    by_cases hk : k = f
    · subst hk
      rw [List.filter_cons_of_neg (by simp), ih]
      by_cases hg : g = k
      · rw [if_pos hg, if_pos hg]
      · rw [if_neg hg, if_neg hg]
        show _ = (if g = k then some v else mget m g).getD 0
        rw [if_neg hg]
    · rw [List.filter_cons_of_pos (by simpa using hk)]
      show (if g = k then some v else mget _ g).getD 0 = if g = f then 0 else (if g = k then some v else mget m g).getD 0
      by_cases hg : g = k
      · rw [if_pos hg, if_pos hg, if_neg (by omega)]
      · rw [if_neg hg, if_neg hg, ih]
theorem OInv.forget {i : Nat} {o : Ord} (h : OInv i o) (f : Int) : OInv i ⟨mdel o.el f, mdel o.tg f, o.tm⟩ := by
  have ht := h.tm
  have hm : mdel o.el f = o.el.filter fun x => !(x.1 == f) := mdel_filtK f h.pts.uniq
  refine ⟨?_, h.uniq.mdel f, fun g => ?_, h.tm, fun p hp => ?_, fun g => ?_⟩
  · dsimp only; rw [hm]; exact h.pts.sub List.filter_sublist
  · have := h.val g
    dsimp only; rw [tget_mdel h.uniq]
    split <;> omega
  · dsimp only at hp ⊢
    rw [hm] at hp
    obtain ⟨h1, h2⟩ := List.mem_filter.1 hp
    rw [tget_mdel h.uniq, if_neg (by simpa using h2)]
    exact h.low p h1
  · have := h.up g
    dsimp only; rw [tget_mdel h.uniq]
    split <;> omega

/-! ### Picking heads -/
theorem snd_zip_sub {α β : Type} : ∀ (l : List α) (m : List β), ((l.zip m).map (·.2)).Sublist m
  | [], m => by simp
  | _ :: _, [] => by simp
  | _ :: l, b :: m => by simpa using snd_zip_sub l m
theorem pickH_sub (D : List Tg) (p : Head → Bool) (H : List Head) : (pickH D p H).Sublist (ptsOf D) := by
  unfold pickH
  exact (List.filter_sublist.map _).trans (snd_zip_sub _ _)
theorem ptsOf_f (D : List Tg) : (ptsOf D).map (·.1) = D.map (·.f) := by unfold ptsOf; rw [List.map_map]; rfl

/-- What the scheduler keeps: tags up to i packets, m slots, ledger bound N. -/
structure CqInv (i m N : Nat) (s : Cq) : Prop where
  t : TInv i s.R
  aw : 0 ≤ s.R.aw ∧ s.R.aw + s.R.tm ≤ m * 2952069120
  pts : ptsOf s.D = ptsOf s.R.L
  lg : LgOk N s.D
  sum : sumS s.D = 0
  c : OInv i s.C
  x : OInv i s.X
  nu : Uniq s.n
  nv : ∀ y ∈ s.n, 0 ≤ y.2.1 ∧ y.2.1 ≤ m * 4096 ∧ 0 ≤ y.2.2 ∧ y.2.2 ≤ m * 4096

section
variable {i m N : Nat} {s : Cq}
theorem CqInv.fl (h : CqInv i m N s) : s.D.map (·.f) = s.R.L.map (·.f) := by
  rw [← ptsOf_f, ← ptsOf_f, h.pts]
theorem CqInv.len (h : CqInv i m N s) : s.D.length = s.R.L.length := by
  have := congrArg List.length h.fl
  simpa using this
theorem CqInv.dpt (h : CqInv i m N s) : PtOk (ptsOf s.D) := ptsOf_ok h.lg.ok
theorem CqInv.cnt (h : CqInv i m N s) (f : Int) : 0 ≤ (cntO s.n f).1 ∧ (cntO s.n f).1 ≤ m * 4096 ∧ 0 ≤ (cntO s.n f).2 ∧ (cntO s.n f).2 ≤ m * 4096 := by
  unfold cntO
  cases hm : mget s.n f with
  | none => show 0 ≤ (0 : Int) ∧ (0 : Int) ≤ _ ∧ 0 ≤ (0 : Int) ∧ (0 : Int) ≤ _; omega
  | some v => exact h.nv _ (mem_of_mget hm)
theorem fget_of_f {L : List Tg} {k : Int} (h : k ∈ L.map (·.f)) : ∃ t, fget L k = some t := by
  cases hf : fget L k with
  | some t => exact ⟨t, rfl⟩
  | none =>
    obtain ⟨t, ht, he⟩ := List.mem_map.1 h
    exact absurd he (fget_none.1 hf t ht)
def cq0 : Cq := ⟨⟨[], fun _ => 0, 0, 0⟩, [], ⟨[], [], 0⟩, ⟨[], [], 0⟩, []⟩
theorem CqInv.start : CqInv 0 0 0 cq0 :=
  ⟨TInv.start, by simp [cq0], rfl, LgOk.start, rfl, OInv.start, OInv.start, by simp [Uniq, cq0], by simp [cq0]⟩
/-- More slots, greater bounds. -/
theorem CqInv.le {j k M : Nat} (h : CqInv i m N s) (hj : i ≤ j) (hk : m ≤ k) (hM : N ≤ M) : CqInv j k M s := by
  have hij : (i : Int) ≤ j := by omega
  have hmk : (m : Int) ≤ k := by omega
  have h2 := h.aw
  refine ⟨?_, by omega, h.pts, h.lg.le hM, h.sum, h.c.le hj, h.x.le hj, h.nu, fun y hy => by have := h.nv y hy; omega⟩
  have h3 := h.t.tm
  exact ⟨h.t.ok, by omega, h.t.act, h.t.old⟩
/-- The times are small. -/
structure CqLow (s : Cq) : Prop where
  r : s.R.tm ≤ 2952069120
  c : s.C.tm ≤ 2952069120
  x : s.X.tm ≤ 2952069120
theorem CqInv.down (h : CqInv i m N s) (hl : CqLow s) : CqInv 2 m N s :=
  ⟨⟨h.t.ok, by have := hl.r; push_cast; omega, h.t.act, h.t.old⟩, h.aw, h.pts, h.lg, h.sum, h.c.down hl.c, h.x.down hl.x, h.nu, h.nv⟩
end

/-! ### A slot -/
/-- The heads fit: what that says. -/
theorem fits_facts {L : List Tg} {H : List Head} (h : fitsH L H = true) : H.map (·.f) = L.map (·.f) ∧ ∀ x ∈ H, 1 ≤ x.len ∧ x.len ≤ 4096 := by
  unfold fitsH at h
  rw [Bool.and_eq_true, decide_eq_true_eq, List.all_eq_true] at h
  exact ⟨h.1, fun x hx => by simpa using h.2 x hx⟩
theorem headOf_mem {H : List Head} {f : Int} (h : f ∈ H.map (·.f)) : headOf H f ∈ H ∧ (headOf H f).f = f := by
  unfold headOf
  cases hf : H.find? (fun h => h.f == f) with
  | none =>
    obtain ⟨x, hx, he⟩ := List.mem_map.1 h
    have := List.find?_eq_none.1 hf x hx
    simp [he] at this
  | some x => exact ⟨List.mem_of_find?_eq_some hf, by simpa using List.find?_some hf⟩
theorem selT_mem {L : List Tg} (h : L ≠ []) : selT L = ((lst L).f, 0) ∧ (lst L).f ∈ L.map (·.f) := by
  unfold selT
  rw [if_neg h]
  exact ⟨rfl, List.mem_map.2 ⟨_, lst_mem h, rfl⟩⟩
/-- Every choice but the idle one charges the selected flow and serves an active one; the ways by the orders serve one that is eligible there. -/
theorem choose_facts {i m N : Nat} {s : Cq} (h : CqInv i m N s) (hne : s.R.L ≠ []) (num den : Int) {H : List Head} (_ : H.map (·.f) = s.R.L.map (·.f)) {C X : Ord} (hC : OInv i C) (hX : OInv i X)
    (hCe : C.el = lagH s.D H) (hXe : X.el = allH s.D H) :
    chooseC num den { s with C := C, X := X } H (!(allH s.D H).isEmpty) = chIdle ∨
    ∃ j why, chooseC num den { s with C := C, X := X } H (!(allH s.D H).isEmpty) = ⟨(lst s.R.L).f, j, why⟩ ∧ j ∈ s.D.map (·.f) ∧ 0 ≤ j ∧
      (why = 1 ∧ j = (lst s.R.L).f ∨ (why = 2 ∨ why = 3) ∧ j = leastF C.el C.tg ∨ why = 4 ∧ j = leastF X.el X.tg) ∧ 0 ≤ (lst s.R.L).f := by
  obtain ⟨hs, hk⟩ := selT_mem hne
  have hk0 : 0 ≤ (lst s.R.L).f := (h.t.ok.ok.rng _ (lst_mem hne)).1
  have hkD : (lst s.R.L).f ∈ s.D.map (·.f) := by rw [h.fl]; exact hk
  have hsub : ∀ (p : Head → Bool) (j : Int), j ∈ (pickH s.D p H).map (·.1) → j ∈ s.D.map (·.f) ∧ 0 ≤ j := fun p j hj => by
    obtain ⟨y, hy, rfl⟩ := List.mem_map.1 hj
    have hy' := (pickH_sub s.D p H).subset hy
    have := h.dpt.rng y hy'
    exact ⟨by rw [← ptsOf_f]; exact List.mem_map.2 ⟨y, hy', rfl⟩, this.1⟩
  unfold chooseC
  dsimp only
  rw [hs]
  dsimp only
  split
  · exact .inr ⟨_, _, rfl, hkD, hk0, .inl ⟨rfl, rfl⟩, hk0⟩
  · split
    · rename_i hl
      have hm := hC.least hl
      have hm' := hm
      rw [hCe] at hm'
      have := hsub _ _ hm'
      rw [← hCe] at this
      refine .inr ⟨_, _, rfl, this.1, hl, .inr (.inl ⟨?_, rfl⟩), hk0⟩
      split
      · exact .inl rfl
      · exact .inr rfl
    · split
      · exact .inr ⟨_, _, rfl, hkD, hk0, .inl ⟨rfl, rfl⟩, hk0⟩
      · split
        · rename_i hso
          have hl : 0 ≤ leastF X.el X.tg := by
            have : ¬ (leastF X.el X.tg < 0) := fun hlt => by
              have := hX.least_nil.1 hlt
              rw [hXe] at this
              rw [this] at hso
              simp at hso
            omega
          rw [if_pos hl]
          have hm := hX.least hl
          have hm' := hm
          rw [hXe] at hm'
          have := hsub _ _ hm'
          rw [← hXe] at this
          exact .inr ⟨_, _, rfl, this.1, hl, .inr (.inr ⟨rfl, rfl⟩), hk0⟩
        · exact .inl rfl
theorem nMove_fw {L : List Tg} (h : NOk L) (c s n : Int) : ptsOf (nMove L c s n).2 = ptsOf L := by
  have hs : ∀ {M : List Tg} {x a : Tg}, NOk M → fget M x.f = some a → x.w = a.w → ptsOf (setT x M) = ptsOf M := fun {M x a} hM hf hw => by
    unfold ptsOf setT
    rw [List.map_map]
    refine List.map_congr_left fun t ht => ?_
    show ((if t.f = x.f then x else t).f, (if t.f = x.f then x else t).w) = (t.f, t.w)
    split
    · rename_i e
      have := fget_memN hM ht
      rw [e, hf] at this
      cases this
      rw [hw, e]
    · rfl
  unfold nMove
  cases hc : fget L c with
  | none => rfl
  | some a =>
    cases hd : fget L s with
    | none => rfl
    | some d =>
      dsimp only
      obtain ⟨ma, rfl⟩ := fget_some hc
      obtain ⟨md, rfl⟩ := fget_some hd
      split
      · rfl
      · split
        · rfl
        · split
          · rfl
          · rename_i hne _
            dsimp only
            have hr := h.rng a ma
            have h1 : NOk (setT ⟨a.f, a.w, a.s + n⟩ L) := h.set (x := ⟨a.f, a.w, a.s + n⟩) ⟨hr.1, hr.2.1, hr.2.2.1, hr.2.2.2⟩
            have h2 : fget (setT ⟨a.f, a.w, a.s + n⟩ L) d.f = some d := by
              rw [← fget_memN h1 (mem_setT_of md (x := ⟨a.f, a.w, a.s + n⟩) (Ne.symm hne))]
            rw [hs (x := ⟨d.f, d.w, d.s - n⟩) h1 h2 rfl, hs (x := ⟨a.f, a.w, a.s + n⟩) h hc rfl]
theorem nMove_zero {N : Nat} {L : List Tg} (h : LgOk N L) (hN : N ≤ 1000000) {c s n : Int} (hc : c ∈ L.map (·.f)) (hs : s ∈ L.map (·.f)) (h1 : 1 ≤ n) (h2 : n ≤ 4096) : (nMove L c s n).1 = 0 := by
  obtain ⟨a, ha⟩ := fget_of_f hc
  obtain ⟨d, hd⟩ := fget_of_f hs
  have b1 := h.lag (fget_some ha).1
  have b2 := h.lag (fget_some hd).1
  have hn : (N : Int) ≤ 1000000 := by omega
  rw [nMove_some ha hd, if_neg (by omega)]
  split
  · rfl
  · rw [if_neg (by omega)]

def nextC (num den reb : Int) (s : Cq) (C X : Ord) (c : Chc) (len : Int) : Cq :=
  ⟨(chargeR reb s.R c.ch len).2, (nMove s.D c.ch c.sv len).2, (servC reb C X c len).2.1, (servC reb C X c len).2.2, resetC (nMove s.D c.ch c.sv len).2 (if countC num den s c = true then bumpC s.n c len else s.n)⟩
theorem Uniq.filt {α : Type} {m : List (Int × α)} (h : Uniq m) (p : Int × α → Bool) : Uniq (m.filter p) := by
  unfold Uniq at *
  exact h.sublist (List.filter_sublist.map _)

/-- What a slot with heads that fit does. -/
theorem CqInv.step {i m N : Nat} {s : Cq} (h : CqInv i m N s) (hi : i ≤ 299) (hN : N ≤ 1000000) (num den reb : Int) {H : List Head} (hf : fitsH s.R.L H = true) (hne : H ≠ []) {C X : Ord} {c : Chc}
    (hC : eligO s.C (lagH s.D H) = C) (hX : eligO s.X (allH s.D H) = X) (hc : chooseC num den { s with C := C, X := X } H (!(allH s.D H).isEmpty) = c) :
    OInv i C ∧ OInv i X ∧ C.el = lagH s.D H ∧ X.el = allH s.D H ∧
    (c = chIdle ∧ stepC num den reb s H = (chIdle, 0, { s with C := C, X := X }) ∧ CqInv i m N { s with C := C, X := X } ∨
      ∃ j why len, c = ⟨(lst s.R.L).f, j, why⟩ ∧ 0 ≤ j ∧ (headOf H j).len = len ∧ (∃ x ∈ H, x.f = j) ∧ 1 ≤ len ∧ len ≤ 4096 ∧ (why = 1 ∧ j = (lst s.R.L).f ∨ (why = 2 ∨ why = 3) ∧ j = leastF C.el C.tg ∨ why = 4 ∧ j = leastF X.el X.tg) ∧ stepC num den reb s H = (c, 0, nextC num den reb s C X c len) ∧
        (chargeR reb s.R (lst s.R.L).f len).1 = 0 ∧ (servC reb C X c len).1 = 0 ∧ (nMove s.D (lst s.R.L).f j len).1 = 0 ∧ CqInv (i + 1) (m + 1) (N + 1) (nextC num den reb s C X c len) ∧ (reb ≤ 2952069120 → CqLow s → CqLow (nextC num den reb s C X c len))) := by
  obtain ⟨f1, f2⟩ := fits_facts hf
  have hL : s.R.L ≠ [] := fun e => by rw [e] at f1; simp at f1; exact hne f1
  have hl : ∀ p, PtOk (pickH s.D p H) := fun p => h.dpt.sub (pickH_sub _ _ _)
  have oC : OInv i C := hC ▸ h.c.elig (hl _)
  have oX : OInv i X := hX ▸ h.x.elig (hl _)
  have eC : C.el = lagH s.D H := hC ▸ h.c.elig_el (hl _)
  have eX : X.el = allH s.D H := hX ▸ h.x.elig_el (hl _)
  refine ⟨oC, oX, eC, eX, ?_⟩
  have hch := choose_facts h hL num den f1 oC oX eC eX
  rw [hc] at hch
  have hst : stepC num den reb s H = if c = chIdle then (c, 0, { s with C := C, X := X }) else
      if (chargeR reb s.R c.ch (headOf H c.sv).len).1 ≠ 0 then (ch0, (chargeR reb s.R c.ch (headOf H c.sv).len).1, s) else
      if (servC reb C X c (headOf H c.sv).len).1 ≠ 0 then (ch0, (servC reb C X c (headOf H c.sv).len).1, s) else
      if (nMove s.D c.ch c.sv (headOf H c.sv).len).1 ≠ 0 then (ch0, (nMove s.D c.ch c.sv (headOf H c.sv).len).1, s) else (c, 0, nextC num den reb s C X c (headOf H c.sv).len) := by
    unfold stepC
    rw [if_neg (by rw [hf]; simp), if_neg hne]
    dsimp only
    rw [hC, hX, hc]
    rfl
  rcases hch with he | ⟨j, why, he, hj, hj0, hw, hk0⟩
  · left
    rw [he, if_pos rfl] at hst
    exact ⟨he, hst, ⟨h.t, h.aw, h.pts, h.lg, h.sum, oC, oX, h.nu, h.nv⟩⟩
  · right
    have hjH : j ∈ H.map (·.f) := by rw [f1, ← h.fl]; exact hj
    obtain ⟨m1, m2⟩ := headOf_mem hjH
    have hlen := f2 _ m1
    refine ⟨j, why, (headOf H j).len, he, hj0, rfl, ⟨_, m1, m2⟩, hlen.1, hlen.2, hw, ?_⟩
    obtain ⟨len, hle⟩ : ∃ len, (headOf H j).len = len := ⟨_, rfl⟩
    rw [hle] at hlen ⊢
    have hkD : (lst s.R.L).f ∈ s.D.map (·.f) := by rw [h.fl]; exact List.mem_map.2 ⟨_, lst_mem hL, rfl⟩
    obtain ⟨q1, q2⟩ := h.t.charge (by omega) hL hlen.1 hlen.2 reb
    have q0 : (chargeR reb s.R (lst s.R.L).f len).1 = 0 := by rw [q1]
    have qn := nMove_zero h.lg hN hkD hj hlen.1 hlen.2
    have qs : (servC reb C X c len).1 = 0 ∧ OInv (i + 1) (servC reb C X c len).2.1 ∧ OInv (i + 1) (servC reb C X c len).2.2 ∧
        (reb ≤ 2952069120 → C.tm ≤ 2952069120 → X.tm ≤ 2952069120 → (servC reb C X c len).2.1.tm ≤ 2952069120 ∧ (servC reb C X c len).2.2.tm ≤ 2952069120) := by
      rw [he]
      unfold servC
      dsimp only
      rcases hw with ⟨hw, _⟩ | ⟨hw, hm⟩ | ⟨hw, hm⟩
      · rw [if_neg (by omega), if_neg (by omega)]
        exact ⟨rfl, oC.le (Nat.le_succ i), oX.le (Nat.le_succ i), fun _ h1 h2 => ⟨h1, h2⟩⟩
      · rw [if_pos hw]
        obtain ⟨wt, _, _, _, e0, e1, _, _, _, by_, b0, b1, b2, e2, _⟩ := oC.serv (by omega) reb hm hj0 hlen.1 hlen.2
        exact ⟨e0, e1, oX.le (Nat.le_succ i), fun h1 h2 h3 => ⟨by rw [e2]; omega, h3⟩⟩
      · rw [if_neg (by omega), if_pos hw]
        obtain ⟨wt, _, _, _, e0, e1, _, _, _, by_, b0, b1, b2, e2, _⟩ := oX.serv (by omega) reb hm hj0 hlen.1 hlen.2
        exact ⟨e0, oC.le (Nat.le_succ i), e1, fun h1 h2 h3 => ⟨h2, by rw [e2]; omega⟩⟩
    have hcne : c ≠ chIdle := by
      rw [he]
      intro e
      have := congrArg Chc.sv e
      change j = -1 at this
      omega
    have hsv : c.sv = j := by rw [he]
    have hcc : c.ch = (lst s.R.L).f := by rw [he]
    refine ⟨?_, q0, qs.1, qn, ?_, ?_⟩
    · have hlen' : (headOf H c.sv).len = len := by rw [hsv]; exact hle
      rw [hst, if_neg hcne, hlen', hcc, hsv, if_neg (by rw [q0]; simp), if_neg (by rw [qs.1]; simp), if_neg (by rw [qn]; simp)]
    · unfold nextC
      rw [hcc, hsv]
      have hnv : ∀ y ∈ s.n, 0 ≤ y.2.1 ∧ y.2.1 ≤ ((m + 1 : Nat) : Int) * 4096 ∧ 0 ≤ y.2.2 ∧ y.2.2 ≤ ((m + 1 : Nat) : Int) * 4096 := fun y hy => by
        have := h.nv y hy; push_cast; omega
      refine ⟨by rw [q1]; exact q2, ?_, ?_, (nMove_ok h.lg _ _ _).1, (nMove_ok h.lg _ _ _).2.trans h.sum, qs.2.1, qs.2.2.1, ?_, ?_⟩
      · rw [q1]
        obtain ⟨_, hT, hmx⟩ := h.t.ch (by omega) hL hlen.1 hlen.2
        have haw := h.aw
        have hr := h.t.ok.ok.rng _ (lst_mem hL)
        have hact := h.t.act _ (lst_mem hL)
        have hbr := byS_rng hT.ok (setT_ne hL)
        unfold rebS
        split
        · show 0 ≤ s.R.aw ∧ s.R.aw + max s.R.tm (lst s.R.L).s ≤ _
          push_cast; omega
        · show 0 ≤ s.R.aw + byS _ ∧ s.R.aw + byS _ + (max s.R.tm (lst s.R.L).s - byS _) ≤ _
          push_cast; omega
      · dsimp only
        rw [nMove_fw h.lg.ok, h.pts, q1]
        dsimp only
        have e1 : ptsOf (chS s.R (lst s.R.L) ((lst s.R.L).s + cst len (lst s.R.L).w)).L = ptsOf s.R.L := by
          unfold chS setT ptsOf
          dsimp only
          rw [List.map_map]
          refine List.map_congr_left fun t ht => ?_
          show ((if t.f = (lst s.R.L).f then (⟨(lst s.R.L).f, (lst s.R.L).w, (lst s.R.L).s + cst len (lst s.R.L).w⟩ : Tg) else t).f, (if t.f = (lst s.R.L).f then (⟨(lst s.R.L).f, (lst s.R.L).w, (lst s.R.L).s + cst len (lst s.R.L).w⟩ : Tg) else t).w) = (t.f, t.w)
          split
          · rename_i e
            rw [h.t.ok.ok.inj ht (lst_mem hL) e]
          · rfl
        rw [← e1]
        unfold rebS
        split
        · rfl
        · unfold subS ptsOf
          dsimp only
          rw [List.map_map]; rfl
      · dsimp only
        unfold resetC
        split
        · exact (h.nu.mput _ _).filt _
        · exact h.nu.filt _
      · dsimp only
        unfold resetC
        intro y hy
        have hy := (List.mem_filter.1 hy).1
        split at hy
        · unfold bumpC at hy
          rcases mput_mem hy with hy | rfl
          · exact hnv y hy
          · have := h.cnt c.ch
            dsimp only
            push_cast
            split <;> omega
        · exact hnv y hy
    · intro hr hl
      have e3 : C.tm = s.C.tm := by rw [← hC]; rfl
      have e4 : X.tm = s.X.tm := by rw [← hX]; rfl
      have := qs.2.2.2 hr (by rw [e3]; exact hl.c) (by rw [e4]; exact hl.x)
      unfold nextC
      refine ⟨?_, this.1, this.2⟩
      dsimp only
      rw [hcc, q1]
      dsimp only
      obtain ⟨_, hT, hmx⟩ := h.t.ch (by omega) hL hlen.1 hlen.2
      have hby := hT.by_ (setT_ne hL)
      unfold rebS
      rw [hby]
      split
      · omega
      · unfold subS; dsimp only; omega
end Go.Proofs.YtkmlkpfabkhleaaGreat

/- A slot of cifq, walked: heads that do not fit, no heads. -/
namespace Go.Proofs.YtkmlkpfabkhleaaGreat
open Go.RowKit
open SP
section
variable {w w' : World} {R : List SP} {b rp lp cp xp nb N : Nat} {num den reb : Int} {S : St} {Sp : SP}

theorem qcalm_set {x : Addr} {v : Value} (h : Calm w w') : Calm w (w'.setCell x v) := ⟨h.os, h.tape, h.output⟩
theorem qcalm_alloc {x : Obj} (h : Calm w w') : Calm w (w'.alloc x) := ⟨h.os, h.tape, h.output⟩
theorem qcalm_drew (h : Calm w w') : Calm w w'.drew := ⟨h.os, h.tape, h.output⟩
/-- A scheduler, all of it. -/
def CqF (b : Nat) (num den reb : Int) (N : Nat) (s : Cq) : SP := ex fun (p : (Nat × Nat × Nat) × (Nat × Nat)) =>
  st [CqC b num den p.1.1 p.1.2.1 p.1.2.2 p.2.1 p.2.2, SfqR p.1.1 reb s.R, LagR p.1.2.1 N s.D, mpI cntV p.2.2 s.n, OrdR p.1.2.2 reb s.C, OrdR p.2.1 reb s.X]
theorem CqF.iff {s : Cq} : Own w (CqF b num den reb N s :: R) ↔ ∃ rp lp cp xp nb, Own w (CqC b num den rp lp cp xp nb :: SfqR rp reb s.R :: LagR lp N s.D :: mpI cntV nb s.n :: OrdR cp reb s.C :: OrdR xp reb s.X :: R) := by
  constructor
  · intro o
    obtain ⟨⟨⟨rp, lp, cp⟩, xp, nb⟩, h⟩ := Own.ex.1 o
    exact ⟨rp, lp, cp, xp, nb, Own.st.1 h⟩
  · rintro ⟨rp, lp, cp, xp, nb, h⟩
    exact Own.ex.2 ⟨((rp, lp, cp), (xp, nb)), Own.st.2 h⟩

theorem chRow2 {fn : Func} (h : fn.results = #[.cell 4 38, .tmp 5]) {tmps : Array Value} {p : Nat} {x y z : Int} {e : Int} (hp : tmps.getD 4 undef = .pointer (some ⟨p, 0, none⟩)) (he : tmps.getD 5 undef = .int .i64 e)
    (o : Own w (cel p 38 [.int .i64 x, .int .i64 y, .int .i64 z] :: R)) : (results fn tmps).run Tryz.prog w = .ok (.tuple #[chV ⟨x, y, z⟩, .int .i64 e]) w := by
  have c0 := o.cell 0
  have c1 := o.cell 1
  have c2 := o.cell 2
  rw [results_cell_tmp h, hp, he]
  unfold chV
  go_simp

set_option maxHeartbeats 3200000 in
set_option maxRecDepth 100000 in
theorem step_unfit {a : Option Addr} {n c : Nat} {H : List Head} (h1 : HeadsAt Sp a H) (hn : n = H.length) (hl : n ≤ 33) (hf : fitsH S.L H = false) (o : Own w (CqC b num den rp lp cp xp nb :: SfqR rp reb S :: Sp :: R)) :
    Calls Tryz.prog 13 #[.pointer (some ⟨b, 0, none⟩), .slice a n c] w (Ret (.tuple #[chV ch0, .int .i64 1]) (CqC b num den rp lp cp xp nb :: SfqR rp reb S :: Sp :: R) w) := by
  have oA := (o.alloc (.cells #[.int .i64 0, .int .i64 0, .int .i64 0] 38)).alloc (.cells #[.int .i64 (-1), .int .i64 (-1), .int .i64 6] 38)
  simp only [World.size_alloc] at oA
  have hc := fits_spec (c := c) h1 hn (by omega) (oA.re [2, 3, 4, 0, 1])
  rw [hf] at hc
  clear hf hn
  go_enter Tryz.func13, Tryz.ntmps13
  go_wp2_with fail
  refine hc.mono ?_
  rintro e1 w1 ⟨rfl, o1, k1⟩
  clear hc
  have z0 := Own.cell (T := 38) (vs := [.int .i64 0, .int .i64 0, .int .i64 0]) (o1.up 4) 0
  have z1 := Own.cell (T := 38) (vs := [.int .i64 0, .int .i64 0, .int .i64 0]) (o1.up 4) 1
  have z2 := Own.cell (T := 38) (vs := [.int .i64 0, .int .i64 0, .int .i64 0]) (o1.up 4) 2
  have zf := Own.frozen (T := 38) (vs := [.int .i64 0, .int .i64 0, .int .i64 0]) (o1.up 4)
  have zl := Own.celLt (T := 38) (vs := [.int .i64 0, .int .i64 0, .int .i64 0]) (o1.up 4)
  have o5 := Own.setCell (T := 38) (vs := [.int .i64 0, .int .i64 0, .int .i64 0]) (o1.up 4) 0 (.int .i64 0)
  have o6 := Own.setCell (T := 38) (vs := [.int .i64 0, .int .i64 0, .int .i64 0]) o5 1 (.int .i64 0)
  have o7 := Own.setCell (T := 38) (vs := [.int .i64 0, .int .i64 0, .int .i64 0]) o6 2 (.int .i64 0)
  go_wp2
  refine bodyPost_ret (v := .tuple #[chV ⟨0, 0, 0⟩, .int .i64 1]) ?_ rfl ?_
  · exact chRow2 (p := w.heap.size) rfl rfl rfl o7
  · exact ⟨rfl, (o7.drop).re [3] 1, ⟨k1.os, k1.tape, k1.output⟩⟩
set_option maxHeartbeats 3200000 in
set_option maxRecDepth 100000 in
theorem step_empty {a : Option Addr} {c : Nat} (hf : S.L = []) (o : Own w (CqC b num den rp lp cp xp nb :: SfqR rp reb S :: Sp :: R)) :
    Calls Tryz.prog 13 #[.pointer (some ⟨b, 0, none⟩), .slice a 0 c] w (Ret (.tuple #[chV ch0, .int .i64 5]) (CqC b num den rp lp cp xp nb :: SfqR rp reb S :: Sp :: R) w) := by
  have oA := (o.alloc (.cells #[.int .i64 0, .int .i64 0, .int .i64 0] 38)).alloc (.cells #[.int .i64 (-1), .int .i64 (-1), .int .i64 6] 38)
  simp only [World.size_alloc] at oA
  have hc := fits_spec (a := a) (c := c) (n := 0) (H := []) (fun w R _ i h e => by simp at e) rfl (by omega) (oA.re [2, 3, 4, 0, 1])
  have hfit : fitsH S.L [] = true := by rw [hf]; rfl
  rw [hfit] at hc
  clear hf hfit
  go_enter Tryz.func13, Tryz.ntmps13
  go_wp2_with fail
  refine hc.mono ?_
  rintro e1 w1 ⟨rfl, o1, k1⟩
  clear hc
  have z0 := Own.cell (T := 38) (vs := [.int .i64 0, .int .i64 0, .int .i64 0]) (o1.up 4) 0
  have z1 := Own.cell (T := 38) (vs := [.int .i64 0, .int .i64 0, .int .i64 0]) (o1.up 4) 1
  have z2 := Own.cell (T := 38) (vs := [.int .i64 0, .int .i64 0, .int .i64 0]) (o1.up 4) 2
  have zf := Own.frozen (T := 38) (vs := [.int .i64 0, .int .i64 0, .int .i64 0]) (o1.up 4)
  have zl := Own.celLt (T := 38) (vs := [.int .i64 0, .int .i64 0, .int .i64 0]) (o1.up 4)
  have o5 := Own.setCell (T := 38) (vs := [.int .i64 0, .int .i64 0, .int .i64 0]) (o1.up 4) 0 (.int .i64 0)
  have o6 := Own.setCell (T := 38) (vs := [.int .i64 0, .int .i64 0, .int .i64 0]) o5 1 (.int .i64 0)
  have o7 := Own.setCell (T := 38) (vs := [.int .i64 0, .int .i64 0, .int .i64 0]) o6 2 (.int .i64 0)
  go_wp2
  refine bodyPost_ret (v := .tuple #[chV ⟨0, 0, 0⟩, .int .i64 5]) ?_ rfl ?_
  · exact chRow2 (p := w.heap.size) rfl rfl rfl o7
  · exact ⟨rfl, (o7.drop).re [3] 1, ⟨k1.os, k1.tape, k1.output⟩⟩
end
end Go.Proofs.YtkmlkpfabkhleaaGreat

/- Drawn regions whose operations all give values that can be named beforehand. -/
namespace Go.Proofs.YtkmlkpfabkhleaaGreat
open Go.RowKit
open SP
/-- What has been done gives these values. -/
def Vals (f : Nat → Value) (L : Nat → Bool) (v : Nat → Value) : Prop := ∀ i, L i = true → v i = f i
theorem Vals.no {f : Nat → Value} {v : Nat → Value} : Vals f (fun _ => false) v := fun _ h => (Bool.false_ne_true h).elim
theorem Vals.put {f : Nat → Value} {L : Nat → Bool} {v : Nat → Value} (h : Vals f L v) (i : Nat) {x : Value} (hx : x = f i) : Vals f (dIns L i) (dUpd v i x) := fun j hj => by
  unfold dUpd
  split
  · rename_i e; rw [e]; exact hx
  · rename_i e
    unfold dIns at hj
    rw [if_neg e] at hj
    exact h j hj
/-- The same, where of some nothing is said. -/
def OVals (f : Nat → Option Value) (L : Nat → Bool) (v : Nat → Value) : Prop := ∀ i x, f i = some x → L i = true → v i = x
theorem OVals.no {f : Nat → Option Value} {v : Nat → Value} : OVals f (fun _ => false) v := fun _ _ _ h => (Bool.false_ne_true h).elim
theorem OVals.put {f : Nat → Option Value} {L : Nat → Bool} {v : Nat → Value} (h : OVals f L v) (i : Nat) {x : Value} (hx : ∀ y, f i = some y → x = y) : OVals f (dIns L i) (dUpd v i x) := fun j y hy hj => by
  unfold dUpd
  split
  · rename_i e; subst e; exact hx y hy
  · rename_i e
    unfold dIns at hj
    rw [if_neg e] at hj
    exact h j y hy hj
theorem some_eq {x y : Value} (h : some x = some y) : x = y := Option.some.inj h
end Go.Proofs.YtkmlkpfabkhleaaGreat

/- Drawn regions with guards that are decided beforehand. -/
namespace Go.Proofs.YtkmlkpfabkhleaaGreat
open Go.RowKit
open SP
section
variable {P : Program} {ops : Array Oper} {Q : Exit → Act → World → Prop}
theorem wanted_at {A0 a : Act} {L : Nat → Bool} {v : Nat → Value} {o : Oper} {j : Nat} {want b : Bool} {t : Nat} (hA : Agree A0 ops L v a) (hg : o.guard = some (j, want)) (ht : (ops[j]?).bind (·.dst) = some t) (hl : L j = true) (hv : v j = .bool b) :
    Region.wanted o (yielded ops a.tmps) = (b == want) := by
  have h := hA.get j hl ht
  rw [hv] at h
  unfold Region.wanted
  rw [hg]
  show (yielded ops a.tmps j == some want) = _
  unfold yielded
  rw [ht]
  simp only [Option.bind_some]
  cases hx : a.tmps[t]? with
  | none => rw [hx] at h; cases h
  | some x =>
    rw [hx] at h
    have : x = .bool b := h
    subst this
    simp
theorem DrawStep.run {A0 : Act} {Inv : (Nat → Bool) → (Nat → Value) → World → Prop} {i : Nat} {o : Oper} {j : Nat} {want : Bool} {t : Nat} (hg : o.guard = some (j, want)) (ht : (ops[j]?).bind (·.dst) = some t)
    (hj : (o.after.any fun e => decide (e.on = j) && Region.binds .any e) = true) (hv : ∀ L v w, Inv L v w → L j = true → v j = .bool want)
    (h : ∀ (L : Nat → Bool) (v : Nat → Value) (a : Act) (w : World), L i = false → (∀ e ∈ o.after, Region.binds .any e = true → L e.on = true) → Agree A0 ops L v a → Inv L v w →
      ∀ K' : Act → World → Prop, Shut (∀ x w', Inv (dIns L i) (dUpd v i x) w' → K' (a.put o.dst x) w') → Oper.wp P o a w K' Q) : DrawStep P ops Q A0 Inv i o := by
  intro L v a w h1 h2 h3 h4 K' hK
  rw [Array.any_eq_true'] at hj
  obtain ⟨e, he, hb⟩ := hj
  rw [Bool.and_eq_true, decide_eq_true_eq] at hb
  have hl : L j = true := hb.1 ▸ h2 e he hb.2
  rw [if_pos (by rw [wanted_at h3 hg ht hl (hv L v w h4 hl)]; simp)]
  exact h L v a w h1 h2 h3 h4 K' hK
theorem DrawStep.skip {A0 : Act} {Inv : (Nat → Bool) → (Nat → Value) → World → Prop} {i : Nat} {o : Oper} {j : Nat} {want : Bool} {t : Nat} (hg : o.guard = some (j, want)) (ht : (ops[j]?).bind (·.dst) = some t)
    (hj : (o.after.any fun e => decide (e.on = j) && Region.binds .any e) = true) (hv : ∀ L v w, Inv L v w → L j = true → v j = .bool (!want))
    (hi : ∀ L v w, L i = false → Inv L v w → Inv (dIns L i) (dUpd v i undef) w) : DrawStep P ops Q A0 Inv i o := by
  intro L v a w h1 h2 h3 h4 K' hK
  rw [Array.any_eq_true'] at hj
  obtain ⟨e, he, hb⟩ := hj
  rw [Bool.and_eq_true, decide_eq_true_eq] at hb
  have hl : L j = true := hb.1 ▸ h2 e he hb.2
  rw [if_neg (by rw [wanted_at h3 hg ht hl (hv L v w h4 hl)]; cases want <;> decide)]
  exact hK.out _ _ (hi L v w h1 h4)
theorem DrawStep.skipU {A0 : Act} {Inv : (Nat → Bool) → (Nat → Value) → World → Prop} {i : Nat} {o : Oper} {j : Nat} {want : Bool} {t : Nat} (hg : o.guard = some (j, want)) (ht : (ops[j]?).bind (·.dst) = some t)
    (hj : (o.after.any fun e => decide (e.on = j) && Region.binds .any e) = true) (hv : ∀ L v w, Inv L v w → L j = true → v j = undef)
    (hi : ∀ L v w, L i = false → Inv L v w → Inv (dIns L i) (dUpd v i undef) w) : DrawStep P ops Q A0 Inv i o := by
  intro L v a w h1 h2 h3 h4 K' hK
  rw [Array.any_eq_true'] at hj
  obtain ⟨e, he, hb⟩ := hj
  rw [Bool.and_eq_true, decide_eq_true_eq] at hb
  have hl : L j = true := hb.1 ▸ h2 e he hb.2
  have hw : Region.wanted o (yielded ops a.tmps) = false := by
    have h := h3.get j hl ht
    rw [hv L v w h4 hl] at h
    unfold Region.wanted
    rw [hg]
    show (yielded ops a.tmps j == some want) = _
    unfold yielded
    rw [ht]
    simp only [Option.bind_some]
    cases hx : a.tmps[t]? with
    | none => rfl
    | some x =>
      rw [hx] at h
      have : x = undef := h
      subst this
      rfl
  rw [if_neg (by rw [hw]; decide)]
  exact hK.out _ _ (hi L v w h1 h4)
end
end Go.Proofs.YtkmlkpfabkhleaaGreat

/- Drawn regions that make one struct and store it last. -/
namespace Go.Proofs.YtkmlkpfabkhleaaGreat
open Go.RowKit
open SP
/-- The struct of a region: not made yet, made (cells zs), stored (cells ys). -/
def Pb (la ls : Bool) (v : Value) (T : TypeId) (zs ys : List Value) : SP :=
  st [pu (ls = true → la = true), if la = true then ex fun (g : Nat) => st [pu (v = .pointer (some ⟨g, 0, none⟩)), cel g T (if ls = true then ys else zs)] else pu True]
section
variable {w w' : World} {R : List SP} {v : Value} {T : TypeId} {zs ys : List Value}
theorem Pb.no (o : Own w R) : Own w (Pb false false v T zs ys :: R) := by
  unfold Pb
  rw [if_neg Bool.false_ne_true]
  exact Own.st.2 (Own.pu.2 ⟨fun h => h, Own.pu.2 ⟨trivial, o⟩⟩)
theorem Pb.new {ls : Bool} (o : Own w (Pb false ls v T zs ys :: R)) : Own (w.alloc (.cells zs.toArray T)) (Pb true ls (.pointer (some ⟨w.heap.size, 0, none⟩)) T zs ys :: R) := by
  unfold Pb at o ⊢
  obtain ⟨h, o⟩ := Own.pu.1 (Own.st.1 o)
  have hls : ls = false := by
    cases ls with
    | false => rfl
    | true => exact absurd (h rfl) Bool.false_ne_true
  subst hls
  rw [if_neg Bool.false_ne_true] at o
  rw [if_pos rfl, if_neg Bool.false_ne_true]
  exact Own.st.2 (Own.pu.2 ⟨fun _ => rfl, Own.ex.2 ⟨w.heap.size, Own.st.2 (Own.pu.2 ⟨rfl, (Own.pu.1 o).2.alloc _⟩)⟩⟩)
theorem Pb.val (o : Own w (Pb true false v T zs ys :: R)) : ∃ g : Nat, v = .pointer (some ⟨g, 0, none⟩) ∧ Own w (cel g T zs :: R) := by
  unfold Pb at o
  obtain ⟨_, o⟩ := Own.pu.1 (Own.st.1 o)
  rw [if_pos rfl, if_neg Bool.false_ne_true] at o
  obtain ⟨g, o⟩ := Own.ex.1 o
  obtain ⟨h, o⟩ := Own.pu.1 (Own.st.1 o)
  exact ⟨g, h, o⟩
theorem Pb.set {g : Nat} (o : Own w (cel g T ys :: R)) : Own w (Pb true true (.pointer (some ⟨g, 0, none⟩)) T zs ys :: R) := by
  unfold Pb
  rw [if_pos rfl, if_pos rfl]
  exact Own.st.2 (Own.pu.2 ⟨fun _ => rfl, Own.ex.2 ⟨g, Own.st.2 (Own.pu.2 ⟨rfl, o⟩)⟩⟩)
theorem Pb.put {g : Nat} {l : Bool} (o : Own w (cel g T ys :: R)) (hl : l = true) (hv : v = .pointer (some ⟨g, 0, none⟩)) : Own w (Pb l true v T zs ys :: R) := by
  subst hl
  subst hv
  exact Pb.set o
theorem Pb.got (o : Own w (Pb true true v T zs ys :: R)) : ∃ g : Nat, v = .pointer (some ⟨g, 0, none⟩) ∧ Own w (cel g T ys :: R) := by
  unfold Pb at o
  obtain ⟨_, o⟩ := Own.pu.1 (Own.st.1 o)
  rw [if_pos rfl, if_pos rfl] at o
  obtain ⟨g, o⟩ := Own.ex.1 o
  obtain ⟨h, o⟩ := Own.pu.1 (Own.st.1 o)
  exact ⟨g, h, o⟩
end
end Go.Proofs.YtkmlkpfabkhleaaGreat

/- A slot of cifq, walked: what it does where the heads fit. -/
namespace Go.Proofs.YtkmlkpfabkhleaaGreat
open Go.RowKit
open SP
section
variable {w w' : World} {R : List SP} {b rp lp cp xp nb N : Nat} {num den reb : Int} {s : Cq} {Sp : SP}

theorem headsAt_val {a : Option Addr} {H : List Head} (h1 : HeadsAt Sp a H) (o : Own w (Sp :: R)) {f : Int} (h : ∃ x ∈ H, x.f = f) :
    ∃ (g i : Nat), a = some ⟨g, 0, none⟩ ∧ i < H.length ∧ idxH f 0 H = (i : Int) ∧ w.cell? ⟨g, i * 3 + 1, none⟩ = some (.int .i64 (headOf H f).len) := by
  obtain ⟨i, e1, e2⟩ := headOf_idx h
  obtain ⟨g, h2, _, h3, _⟩ := h1 w R o i _ e1
  exact ⟨g, i, h2, (List.getElem?_eq_some_iff.1 e1).1, e2, h3⟩

def OrdCopyPost (b : Nat) (reb : Int) (o : Ord) (R : List SP) (w : World) (e : Ending) (w' : World) : Prop :=
  ∃ p, Ret (.pointer (some ⟨p, 0, none⟩)) (OrdR p reb o :: OrdR b reb o :: R) w e w'
theorem ordCopy_spec {C : Ord} (o : Own w (OrdR b reb C :: R)) : Calls Tryz.prog 42 #[.pointer (some ⟨b, 0, none⟩)] w (OrdCopyPost b reb C R w) := compCopy_spec o

theorem ordElig_spec {C : Ord} {a : Option Addr} {n c : Nat} {l : List (Int × Int)} (hn : n = l.length) (hl : PtOk l) (o : Own w (slc 162 2 a n c (flat part l) :: OrdR b reb C :: R)) :
    Calls Tryz.prog 44 #[.pointer (some ⟨b, 0, none⟩), .slice a n c] w (Ret (.int .i64 0) (slc 162 2 a n c (flat part l) :: OrdR b reb (eligO C l) :: R) w) :=
  eligible_ok a n c l hn (by have := hl.len; omega) hl.good o

theorem cqServe_ok {S : St} {C X : Ord} {k j why len : Int} (h1 : (chargeR reb S k len).1 = 0) (h2 : (servC reb C X ⟨k, j, why⟩ len).1 = 0) (haw : 0 ≤ S.aw ∧ S.aw ≤ 1152921504606846976) (hC : OrdOk C) (hX : OrdOk X)
    (o : Own w (CqC b num den rp lp cp xp nb :: SfqR rp reb S :: OrdR cp reb C :: OrdR xp reb X :: R)) :
    Calls Tryz.prog 47 #[.pointer (some ⟨b, 0, none⟩), .agg #[.int .i64 k, .int .i64 j, .int .i64 why], .int .i64 len] w
      (Ret (.int .i64 0) (CqC b num den rp lp cp xp nb :: SfqR rp reb (chargeR reb S k len).2 :: OrdR cp reb (servC reb C X ⟨k, j, why⟩ len).2.1 :: OrdR xp reb (servC reb C X ⟨k, j, why⟩ len).2.2 :: R) w) := by
  refine (cqServe_spec ⟨k, j, why⟩ len haw hC hX o).mono fun e w' h => ?_
  unfold CqServPost at h
  dsimp only at h
  rw [if_neg (by rw [h1]; simp), h2] at h
  exact h

def cntN (z : Bool) (n : List (Int × (Int × Int))) (c : Chc) (len : Int) : List (Int × (Int × Int)) := if z = true then bumpC n c len else n

set_option maxHeartbeats 6400000 in
set_option maxRecDepth 100000 in
theorem step_go {i m : Nat} {nu de : Nat} (hI : CqInv i m N s) (hi : i ≤ 299) (hm : m ≤ 200000) (hN : N ≤ 1000000) (hnu : nu < 4194304) (hde : de < 4194304)
    {a : Option Addr} {n c : Nat} {H : List Head} (h1 : HeadsAt Sp a H) (hn : n = H.length) (hl : n ≤ 32) (hf : fitsH s.R.L H = true) (hne : H ≠ [])
    (o : Own w (CqC b (nu : Int) (de : Int) rp lp cp xp nb :: SfqR rp reb s.R :: LagR lp N s.D :: mpI cntV nb s.n :: OrdR cp reb s.C :: OrdR xp reb s.X :: Sp :: R)) :
    Calls Tryz.prog 13 #[.pointer (some ⟨b, 0, none⟩), .slice a n c] w
      (Ret (.tuple #[chV (stepC (nu : Int) (de : Int) reb s H).1, .int .i64 (stepC (nu : Int) (de : Int) reb s H).2.1]) (CqF b (nu : Int) (de : Int) reb (N + 1) (stepC (nu : Int) (de : Int) reb s H).2.2 :: Sp :: R) w) := by
  have hn0 : ¬ n = 0 := fun h => hne (List.eq_nil_of_length_eq_zero (by omega))
  have oA := (o.alloc (.cells #[.int .i64 0, .int .i64 0, .int .i64 0] 38)).alloc (.cells #[.int .i64 (-1), .int .i64 (-1), .int .i64 6] 38)
  simp only [World.size_alloc] at oA
  have hc := fits_spec (c := c) h1 hn (by omega) (oA.re [2, 3, 8, 0, 1, 4, 5, 6, 7])
  rw [hf] at hc
  have Hn := Lib.hid hn
  have hFit := Lib.hid (fits_facts hf)
  have HlD : s.D.length = n := by rw [hI.len, Hn.out, ← List.length_map (f := fun x => x.f), ← hFit.out.1, List.length_map]
  have hL : s.R.L ≠ [] := fun e => hn0 (by rw [← HlD, hI.len, e]; rfl)
  have hk : ∃ h ∈ H, h.f = (selT s.R.L).1 := by
    have h2 := (selT_mem hL).2
    rw [(selT_mem hL).1]
    rw [← hFit.out.1] at h2
    obtain ⟨x, hx, e⟩ := List.mem_map.1 h2
    exact ⟨x, hx, e⟩
  have hcn := hI.cnt (selT s.R.L).1
  obtain ⟨cr, hcr⟩ := Int.eq_ofNat_of_zero_le hcn.1
  obtain ⟨cl, hcl⟩ := Int.eq_ofNat_of_zero_le hcn.2.2.1
  have hcc : cntO s.n (selT s.R.L).1 = ((cr : Int), (cl : Int)) := by rw [← hcr, ← hcl]
  have hcr' : cr < 1099511627776 := by omega
  have hcl' : cl < 1099511627776 := by omega
  have hso : (!(allH s.D H).isEmpty) = decide (0 < (allH s.D H).length) := by cases allH s.D H <;> rfl
  obtain ⟨C, hC⟩ : ∃ C, eligO s.C (lagH s.D H) = C := ⟨_, rfl⟩
  obtain ⟨X, hX⟩ : ∃ X, eligO s.X (allH s.D H) = X := ⟨_, rfl⟩
  obtain ⟨cc, hch⟩ : ∃ cc, chooseC (nu : Int) (de : Int) { s with C := C, X := X } H (!(allH s.D H).isEmpty) = cc := ⟨_, rfl⟩
  obtain ⟨oC, oX, eC, eX, hstep⟩ := hI.step hi hN (nu : Int) (de : Int) reb hf hne hC hX hch
  rw [hso] at hch
  have hcho := fun (w : World) (b rp cp xp : Nat) (R : List SP) o => choose_spec (w := w) (b := b) (rp := rp) (cp := cp) (xp := xp) (R := R) (lp := lp) (nb := nb) (N := N) (reb := reb) (Sp := Sp) (c := c) (so := decide (0 < (allH s.D H).length)) (s := { s with C := C, X := X }) hnu hde hcr' hcl' hcc h1 hn hl hk (oC.ok (by omega)) (oX.ok (by omega)) o
  rw [hch] at hcho
  have HC := Lib.hid hC
  have HX := Lib.hid hX
  clear hk
  obtain ⟨k, hk⟩ : ∃ k, (lst s.R.L).f = k := ⟨_, rfl⟩
  rw [hk] at hstep
  have HS := Lib.hid hstep
  have HO := Lib.hid (And.intro (oC.ok (by omega)) (oX.ok (by omega)))
  clear hk
  have HCHO := Lib.hid hcho
  clear hcn hcr hcl hcc hcr' hcl' hso hC hX hch oC oX eC eX hstep hcho
  have hl : n ≤ 32 := hl
  clear hn
  go_enter Tryz.func13, Tryz.ntmps13
  go_wp2_with fail
  refine hc.mono ?_
  rintro e1 w1 ⟨rfl, o1, k1⟩
  clear hc
  have c0 := o1.cell 0
  have c1 := o1.cell 1
  have c2 := o1.cell 2
  have c3 := o1.cell 3
  have c4 := o1.cell 4
  have c5 := o1.cell 5
  have c6 := o1.cell 6
  have cl := o1.celLt
  have oB := o1.alloc (.cells #[.int .i64 (nu : Int), .int .i64 (de : Int), .pointer (some ⟨rp, 0, none⟩), .pointer (some ⟨lp, 0, none⟩), .pointer (some ⟨cp, 0, none⟩), .pointer (some ⟨xp, 0, none⟩), .map (some nb)] 95)
  go_wp2
  have oBd := oB.drew.re [2, 0, 1, 3, 4, 5, 6, 7, 8, 9]
  have c2' := (oB.up 1).cell 2
  have c4' := (oB.up 1).cell 4
  have c5' := (oB.up 1).cell 5
  go_region_held3 (fun w' => w'.cell? ⟨b, 2, none⟩ = some (.pointer (some ⟨rp, 0, none⟩)) ∧ w'.cell? ⟨b, 4, none⟩ = some (.pointer (some ⟨cp, 0, none⟩)) ∧ w'.cell? ⟨b, 5, none⟩ = some (.pointer (some ⟨xp, 0, none⟩))) (go_keep) (first
    | (go_at_call 41; (with_reducible refine (sfqCopy_spec oBd).mono ?_); rintro e2 w2 ⟨rq, rfl, o2, k2⟩; have x2 := (o2.up 3).cell 2; have x4 := (o2.up 3).cell 4; have x5 := (o2.up 3).cell 5; have o2b := o2.re [9])
    | (go_at_call 42; (with_reducible refine (ordCopy_spec o2b).mono ?_); rintro e3 w3 ⟨cq, rfl, o3, k3⟩; have y2 := (o3.up 5).cell 2; have y4 := (o3.up 5).cell 4; have y5 := (o3.up 5).cell 5; have o3b := o3.re [11])
    | (go_at_call 42; (with_reducible refine (ordCopy_spec o3b).mono ?_); rintro e4 w4 ⟨xq, rfl, o4, k4⟩; have z2 := (o4.up 7).cell 2; have z4 := (o4.up 7).cell 4; have z5 := (o4.up 7).cell 5; have t2 := (o4.up 6).cell 2; have tf := (o4.up 6).frozen; have tl := (o4.up 6).celLt; have oS := (o4.up 6).setCell 2 (.pointer (some ⟨rq, 0, none⟩)); have s2 := (oS.up 7).cell 2; have s4 := (oS.up 7).cell 4; have s5 := (oS.up 7).cell 5; have t4 := oS.cell 4; have sf := oS.frozen; have sl := oS.celLt; have oS2 := oS.setCell 4 (.pointer (some ⟨cq, 0, none⟩)); have u2 := (oS2.up 7).cell 2; have u4 := (oS2.up 7).cell 4; have u5 := (oS2.up 7).cell 5; have t5 := oS2.cell 5; have uf := oS2.frozen; have ul := oS2.celLt; have oS3 := oS2.setCell 5 (.pointer (some ⟨xq, 0, none⟩)); have v2 := (oS3.up 7).cell 2; have v4 := (oS3.up 7).cell 4; have v5 := (oS3.up 7).cell 5))
  have oT : Own _ (CqC w1.heap.size (nu : Int) (de : Int) rq lp cq xq nb :: _) := oS3.re [2, 4, 6] 3
  have KK : Calm w w4 := Calm.trans ⟨k1.os, k1.tape, k1.output⟩ (Calm.trans ⟨k2.os, k2.tape, k2.output⟩ (Calm.trans k3 k4))
  generalize w1.heap.size = tb at *
  clear c0 c1 c2 c3 c4 c5 c6 cl oB oBd c2' c4' c5' x2 x4 x5 o2 o2b o3 y2 y4 y5 o3b z2 z4 z5 t2 tf tl s2 s4 s5 t4 sf sl oS oS2 u2 u4 u5 t5 uf ul o1 oA o o4 v2 v4 v5
  have oU := oT.re [4, 8, 5]
  go_wp2_with fail
  refine (sending_spec (c := c) h1 Hn.out HlD hl oU).mono ?_
  rintro e5 w5 ⟨a1, a2, q1, q2, rfl, o5, k5⟩
  have K5 : Calm w w5 := KK.trans ⟨k5.os, k5.tape, k5.output⟩
  clear KK k5 k1 k2 k3 k4
  have hpL : PtOk (lagH s.D H) := hI.dpt.sub (pickH_sub _ _ _)
  have hpA : PtOk (allH s.D H) := hI.dpt.sub (pickH_sub _ _ _)
  have HpL := Lib.hid hpL
  have HpA := Lib.hid hpA
  clear hpL hpA
  have x4 := (o5.up 5).cell 4
  have xl := (o5.up 5).celLt
  have hcall := ordElig_spec (b := cq) (reb := reb) (C := s.C) (c := q2) rfl HpL.out (o5.re [1, 7, 0, 2, 3, 4, 5, 6])
  go_wp2_with fail
  refine hcall.mono ?_
  rintro e6 w6 ⟨rfl, o6, k6⟩
  clear hcall x4 xl o5
  have y5 := (o6.up 6).cell 5
  have yl := (o6.up 6).celLt
  have hcall := ordElig_spec (b := xq) (reb := reb) (C := s.X) (c := q1) rfl HpA.out (o6.re [2, 7, 0, 1, 3, 4, 5, 6])
  go_wp2_with fail
  refine hcall.mono ?_
  rintro e7 w7 ⟨rfl, o7, k7⟩
  clear hcall y5 yl o6
  rw [HC.out, HX.out] at o7
  have hcall := HCHO.out _ _ _ _ _ _ (o7.re [7, 8, 5, 11, 3, 1, 6, 4, 9, 10, 0, 2])
  go_wp2_with fail
  refine hcall.mono ?_
  rintro e8 w8 ⟨rfl, o8, k8⟩
  have K8 : Calm w w8 := K5.trans (k6.trans (k7.trans k8))
  clear hcall o7 K5 k6 k7 k8
  rcases HS.out with ⟨rfl, hst, _⟩ | ⟨j, why, len, rfl, hj0, hlen, hjH, l1, l2, hway, hst, q1, q2, q3, hI'⟩
  · have HST := Lib.hid hst
    clear hst HS HCHO
    have oK := o8.alloc (.cells #[.int .i64 (-1), .int .i64 (-1), .int .i64 6] 38)
    have t0 := oK.cell (T := 38) (vs := [.int .i64 (-1), .int .i64 (-1), .int .i64 6]) 0
    have t1 := oK.cell (T := 38) (vs := [.int .i64 (-1), .int .i64 (-1), .int .i64 6]) 1
    have t2 := oK.cell (T := 38) (vs := [.int .i64 (-1), .int .i64 (-1), .int .i64 6]) 2
    have i0 := Own.cell (T := 38) (vs := [.int .i64 (-1), .int .i64 (-1), .int .i64 6]) (oK.up 9) 0
    have i1 := Own.cell (T := 38) (vs := [.int .i64 (-1), .int .i64 (-1), .int .i64 6]) (oK.up 9) 1
    have i2 := Own.cell (T := 38) (vs := [.int .i64 (-1), .int .i64 (-1), .int .i64 6]) (oK.up 9) 2
    have n0 := (oK.up 1).cell 0
    have n1 := (oK.up 1).cell 1
    have n2 := (oK.up 1).cell 2
    have n3 := (oK.up 1).cell 3
    have n4 := (oK.up 1).cell 4
    have n5 := (oK.up 1).cell 5
    have n6 := (oK.up 1).cell 6
    have b0 := (oK.up 8).cell 0
    have b1 := (oK.up 8).cell 1
    have b2 := (oK.up 8).cell 2
    have b3 := (oK.up 8).cell 3
    have b4 := (oK.up 8).cell 4
    have b5 := (oK.up 8).cell 5
    have b6 := (oK.up 8).cell 6
    have bf := (oK.up 8).frozen
    have bl := (oK.up 8).celLt
    have oM0 := (oK.up 8).setCell 0 (.int .i64 (nu : Int))
    have oM1 := oM0.setCell 1 (.int .i64 (de : Int))
    have oM2 := oM1.setCell 2 (.pointer (some ⟨rq, 0, none⟩))
    have oM3 := oM2.setCell 3 (.pointer (some ⟨lp, 0, none⟩))
    have oM4 := oM3.setCell 4 (.pointer (some ⟨cq, 0, none⟩))
    have oM5 := oM4.setCell 5 (.pointer (some ⟨xq, 0, none⟩))
    have oM6 := oM5.setCell 6 (.map (some nb))
    have oM : Own _ (CqC b (nu : Int) (de : Int) rq lp cq xq nb :: _) := oM6
    clear oM0 oM1 oM2 oM3 oM4 oM5 oM6
    have u0 := Own.cell (T := 38) (vs := [.int .i64 (-1), .int .i64 (-1), .int .i64 6]) (oM.up 1) 0
    have u1 := Own.cell (T := 38) (vs := [.int .i64 (-1), .int .i64 (-1), .int .i64 6]) (oM.up 1) 1
    have u2 := Own.cell (T := 38) (vs := [.int .i64 (-1), .int .i64 (-1), .int .i64 6]) (oM.up 1) 2
    have z0 := Own.cell (T := 38) (vs := [.int .i64 0, .int .i64 0, .int .i64 0]) (oM.up 10) 0
    have z1 := Own.cell (T := 38) (vs := [.int .i64 0, .int .i64 0, .int .i64 0]) (oM.up 10) 1
    have z2 := Own.cell (T := 38) (vs := [.int .i64 0, .int .i64 0, .int .i64 0]) (oM.up 10) 2
    have zf := Own.frozen (T := 38) (vs := [.int .i64 0, .int .i64 0, .int .i64 0]) (oM.up 10)
    have zl := Own.celLt (T := 38) (vs := [.int .i64 0, .int .i64 0, .int .i64 0]) (oM.up 10)
    have oZ0 := Own.setCell (T := 38) (vs := [.int .i64 0, .int .i64 0, .int .i64 0]) (oM.up 10) 0 (.int .i64 (-1))
    have oZ1 := Own.setCell (T := 38) (vs := [.int .i64 (-1), .int .i64 0, .int .i64 0]) oZ0 1 (.int .i64 (-1))
    have oZ2 := Own.setCell (T := 38) (vs := [.int .i64 (-1), .int .i64 (-1), .int .i64 0]) oZ1 2 (.int .i64 6)
    have KM := qcalm_set (x := ⟨b, 6, none⟩) (v := .map (some nb)) (qcalm_set (x := ⟨b, 5, none⟩) (v := .pointer (some ⟨xq, 0, none⟩)) (qcalm_set (x := ⟨b, 4, none⟩) (v := .pointer (some ⟨cq, 0, none⟩)) (qcalm_set (x := ⟨b, 3, none⟩) (v := .pointer (some ⟨lp, 0, none⟩)) (qcalm_set (x := ⟨b, 2, none⟩) (v := .pointer (some ⟨rq, 0, none⟩)) (qcalm_set (x := ⟨b, 1, none⟩) (v := .int .i64 (de : Int)) (qcalm_set (x := ⟨b, 0, none⟩) (v := .int .i64 (nu : Int)) (qcalm_alloc (x := .cells #[.int .i64 (-1), .int .i64 (-1), .int .i64 6] 38) K8)))))))
    have KZ := qcalm_set (x := ⟨w.heap.size, 2, none⟩) (v := .int .i64 6) (qcalm_set (x := ⟨w.heap.size, 1, none⟩) (v := .int .i64 (-1)) (qcalm_set (x := ⟨w.heap.size, 0, none⟩) (v := .int .i64 (-1)) KM))
    unfold chIdle chV
    dsimp only
    go_wp2
    refine bodyPost_ret (v := .tuple #[chV ⟨-1, -1, 6⟩, .int .i64 0]) ?_ rfl ?_
    · exact chRow2 (p := w.heap.size) rfl rfl rfl oZ2
    · rw [HST.out]
      have oF := oZ2.re [0, 2, 3, 10, 11, 12] 6
      have oG := (LagR.le (Nat.le_succ N) (oF.re [2])).re [1, 2, 0]
      exact ⟨rfl, CqF.iff.2 ⟨rq, lp, cq, xq, nb, oG⟩, KZ⟩
  · have HST := Lib.hid hst
    clear hst HS HCHO
    obtain ⟨ix, hix, hidx⟩ := headOf_idx hjH
    obtain ⟨g, rfl, _⟩ := h1 _ _ (o8.up 6) ix _ hix
    have hin : ix < n := by have := (List.getElem?_eq_some_iff.1 hix).1; have := Hn.out; omega
    have oK := o8.alloc (.cells #[.int .i64 k, .int .i64 j, .int .i64 why] 38)
    have hcall := index_spec (f := j) (c := c) h1 Hn.out (by omega) (oK.re [7])
    rw [hidx] at hcall
    have HIX := Lib.hid hix
    have HQ1 := Lib.hid q1
    have HQ2 := Lib.hid q2
    have HQ3 := Lib.hid q3
    have HLEN := Lib.hid hlen
    have HJH := Lib.hid hjH
    have HW := Lib.hid hway
    have HI' := Lib.hid hI'
    clear hidx hix q1 q2 q3 hlen hjH hway hI'
    have jn : (j == -1) = false := by simp; omega
    have t0 := oK.cell (T := 38) (vs := [.int .i64 k, .int .i64 j, .int .i64 why]) 0
    have t1 := oK.cell (T := 38) (vs := [.int .i64 k, .int .i64 j, .int .i64 why]) 1
    have t2 := oK.cell (T := 38) (vs := [.int .i64 k, .int .i64 j, .int .i64 why]) 2
    have i0 := Own.cell (T := 38) (vs := [.int .i64 (-1), .int .i64 (-1), .int .i64 6]) (oK.up 9) 0
    have i1 := Own.cell (T := 38) (vs := [.int .i64 (-1), .int .i64 (-1), .int .i64 6]) (oK.up 9) 1
    have i2 := Own.cell (T := 38) (vs := [.int .i64 (-1), .int .i64 (-1), .int .i64 6]) (oK.up 9) 2
    unfold chV
    dsimp only
    go_wp2_with fail
    refine hcall.mono ?_
    rintro e9 w9 ⟨rfl, o9, k9⟩
    clear hcall t0 t1 t2 i0 i1 i2 oK o8
    obtain ⟨g', hg', _, hcell, _⟩ := h1 _ _ o9 ix _ HIX.out
    cases hg'
    rw [HLEN.out] at hcell
    have t0 := Own.cell (T := 38) (vs := [.int .i64 k, .int .i64 j, .int .i64 why]) (o9.up 1) 0
    have t1 := Own.cell (T := 38) (vs := [.int .i64 k, .int .i64 j, .int .i64 why]) (o9.up 1) 1
    have t2 := Own.cell (T := 38) (vs := [.int .i64 k, .int .i64 j, .int .i64 why]) (o9.up 1) 2
    have haw : 0 ≤ s.R.aw ∧ s.R.aw ≤ 1152921504606846976 := by have := hI.aw; have := hI.t.ok.tm; omega
    have hcall := cqServe_ok (num := (nu : Int)) (den := (de : Int)) HQ1.out HQ2.out haw HO.out.1 HO.out.2 (o9.re [2, 3, 6, 7])
    clear haw
    go_wp2_with fail
    refine hcall.mono ?_
    rintro e10 w10 ⟨rfl, o10, k10⟩
    have K10 : Calm w w10 := K8.trans ⟨k10.os.trans k9.os, k10.tape.trans k9.tape, k10.output.trans k9.output⟩
    clear K8 k9 k10 hcall hcell t0 t1 t2 o9
    obtain ⟨S', hS'⟩ : ∃ S', (chargeR reb s.R k len).2 = S' := ⟨_, rfl⟩
    obtain ⟨C', hC'⟩ : ∃ C', (servC reb C X ⟨k, j, why⟩ len).2.1 = C' := ⟨_, rfl⟩
    obtain ⟨X', hX'⟩ : ∃ X', (servC reb C X ⟨k, j, why⟩ len).2.2 = X' := ⟨_, rfl⟩
    rw [hS', hC', hX'] at o10
    have HS' := Lib.hid hS'
    have HC' := Lib.hid hC'
    have HX' := Lib.hid hX'
    clear hS' hC' hX'
    have o11 := o10.re [8, 6]
    clear o10
    generalize w8.heap.size = cb at *
    go_upto_region 19 with fail
    go_cut [13] (fun v wc => v = .bool (countC (nu : Int) (de : Int) s ⟨k, j, why⟩) ∧ Own wc (CqC b (nu : Int) (de : Int) rp lp cp xp nb :: LagR lp N s.D :: CqC tb (nu : Int) (de : Int) rq lp cq xq nb :: SfqR rq reb S' :: OrdR cq reb C' :: OrdR xq reb X' :: Sp :: cel cb 38 [.int .i64 k, .int .i64 j, .int .i64 why] :: mpI cntV nb s.n :: cel (w.heap.size + 1) 38 [.int .i64 (-1), .int .i64 (-1), .int .i64 6] :: cel w.heap.size 38 [.int .i64 0, .int .i64 0, .int .i64 0] :: R) ∧ Calm w wc)
    case first =>
      have t0 := Own.cell (T := 38) (vs := [.int .i64 k, .int .i64 j, .int .i64 why]) (o11.up 7) 0
      have hlead := leading_spec k o11
      cases hld : decide (lagO s.D k < 0) with
      | false =>
        rw [hld] at hlead
        have hcnt : countC (nu : Int) (de : Int) s ⟨k, j, why⟩ = false := by unfold countC; dsimp only; rw [hld]; rfl
        have HCN := Lib.hid hcnt
        clear hld hcnt
        go_wp2_with fail
        refine hlead.mono ?_
        rintro e11 w11 ⟨rfl, o12, k11⟩
        clear hlead
        go_wp2
        go_meet
        exact ⟨by rw [HCN.out], o12.re [11, 12] 2, K10.trans k11⟩
      | true =>
        rw [hld] at hlead
        rcases HW.out with ⟨rfl, _⟩ | ⟨rfl | rfl, _⟩ | ⟨rfl, _⟩
        · have hcnt : countC (nu : Int) (de : Int) s ⟨k, j, 1⟩ = keepsO (nu : Int) (de : Int) (cntO s.n k) := by unfold countC; dsimp only; rw [hld]; rfl
          have HCN := Lib.hid hcnt
          clear hld hcnt
          go_wp2_with fail
          refine hlead.mono ?_
          rintro e11 w11 ⟨rfl, o12, k11⟩
          clear hlead
          have hcn := hI.cnt k
          obtain ⟨cr, hcr⟩ := Int.eq_ofNat_of_zero_le hcn.1
          obtain ⟨cl, hcl⟩ := Int.eq_ofNat_of_zero_le hcn.2.2.1
          have hkp := keeps_spec (cr := cr) (cl := cl) k hnu hde (by omega) (by omega) (by rw [← hcr, ← hcl]) (o12.re [0, 8])
          rw [← HCN.out] at hkp
          clear hcn hcr hcl
          have u0 := Own.cell (T := 38) (vs := [.int .i64 k, .int .i64 j, .int .i64 1]) (o12.up 7) 0
          have u2 := Own.cell (T := 38) (vs := [.int .i64 k, .int .i64 j, .int .i64 1]) (o12.up 7) 2
          generalize countC (nu : Int) (de : Int) s ⟨k, j, 1⟩ = Z at *
          go_wp2_with fail
          refine hkp.mono ?_
          rintro e12 w12 ⟨rfl, o13, k12⟩
          clear hkp
          go_wp2
          go_meet
          exact ⟨rfl, o13.re [11, 12, 0, 2, 3, 4, 5, 6, 7, 8, 1] 2, K10.trans (k11.trans k12)⟩
        · have hcnt : countC (nu : Int) (de : Int) s ⟨k, j, 2⟩ = true := by unfold countC; dsimp only; rw [hld]; rfl
          have HCN := Lib.hid hcnt
          clear hld hcnt
          go_wp2_with fail
          refine hlead.mono ?_
          rintro e11 w11 ⟨rfl, o12, k11⟩
          clear hlead
          have u2 := Own.cell (T := 38) (vs := [.int .i64 k, .int .i64 j, .int .i64 2]) (o12.up 7) 2
          go_wp2
          go_meet
          exact ⟨by rw [HCN.out], o12.re [11, 12] 2, K10.trans k11⟩
        · have hcnt : countC (nu : Int) (de : Int) s ⟨k, j, 3⟩ = false := by unfold countC; dsimp only; rw [hld]; rfl
          have HCN := Lib.hid hcnt
          clear hld hcnt
          go_wp2_with fail
          refine hlead.mono ?_
          rintro e11 w11 ⟨rfl, o12, k11⟩
          clear hlead
          have u2 := Own.cell (T := 38) (vs := [.int .i64 k, .int .i64 j, .int .i64 3]) (o12.up 7) 2
          go_wp2
          go_meet
          exact ⟨by rw [HCN.out], o12.re [11, 12] 2, K10.trans k11⟩
        · have hcnt : countC (nu : Int) (de : Int) s ⟨k, j, 4⟩ = false := by unfold countC; dsimp only; rw [hld]; rfl
          have HCN := Lib.hid hcnt
          clear hld hcnt
          go_wp2_with fail
          refine hlead.mono ?_
          rintro e11 w11 ⟨rfl, o12, k11⟩
          clear hlead
          have u2 := Own.cell (T := 38) (vs := [.int .i64 k, .int .i64 j, .int .i64 4]) (o12.up 7) 2
          go_wp2
          go_meet
          exact ⟨by rw [HCN.out], o12.re [11, 12] 2, K10.trans k11⟩
    case rest =>
      obtain ⟨rfl, o12, k12⟩ := hcut
      clear o11 K10
      generalize hZ : countC (nu : Int) (de : Int) s ⟨k, j, why⟩ = Z
      have HZ := Lib.hid hZ
      clear hZ
      have c3 := o12.cell 3
      have cl := o12.celLt
      have t0 := Own.cell (T := 38) (vs := [.int .i64 k, .int .i64 j, .int .i64 why]) (o12.up 7) 0
      have t1 := Own.cell (T := 38) (vs := [.int .i64 k, .int .i64 j, .int .i64 why]) (o12.up 7) 1
      have hmv := lagMove_spec k j len (by omega) (o12.drew.re [1])
      rw [HQ3.out] at hmv
      go_wp2
      refine wp_region_tail 9 (by kernel_rfl) (by kernel_rfl) ?_
      simp only [List.take_succ_cons, List.take_zero, List.drop_succ_cons, List.drop_zero]
      repeat still_step
      refine wpStill_nil ?_
      go_wp2_with fail
      refine hmv.mono ?_
      rintro e13 w13 ⟨rfl, o13, k13⟩
      have K13 : Calm w w13 := k12.trans ⟨k13.os, k13.tape, k13.output⟩
      obtain ⟨D', hD'⟩ : ∃ D', (nMove s.D k j len).2 = D' := ⟨_, rfl⟩
      rw [hD'] at o13
      have HD' := Lib.hid hD'
      have hm' : (m : Int) ≤ 200000 := by omega
      clear hmv c3 cl t0 t1 k12 k13 o12 hD'
      have n0 := (o13.up 2).cell 0
      have n1 := (o13.up 2).cell 1
      have n2 := (o13.up 2).cell 2
      have n3 := (o13.up 2).cell 3
      have n4 := (o13.up 2).cell 4
      have n5 := (o13.up 2).cell 5
      have n6 := (o13.up 2).cell 6
      have b0 := (o13.up 1).cell 0
      have b1 := (o13.up 1).cell 1
      have b2 := (o13.up 1).cell 2
      have b3 := (o13.up 1).cell 3
      have b4 := (o13.up 1).cell 4
      have b5 := (o13.up 1).cell 5
      have b6 := (o13.up 1).cell 6
      have bf := (o13.up 1).frozen
      have bl := (o13.up 1).celLt
      have oM0 := (o13.up 1).setCell 0 (.int .i64 (nu : Int))
      have oM1 := oM0.setCell 1 (.int .i64 (de : Int))
      have oM2 := oM1.setCell 2 (.pointer (some ⟨rq, 0, none⟩))
      have oM3 := oM2.setCell 3 (.pointer (some ⟨lp, 0, none⟩))
      have oM4 := oM3.setCell 4 (.pointer (some ⟨cq, 0, none⟩))
      have oM5 := oM4.setCell 5 (.pointer (some ⟨xq, 0, none⟩))
      have oM6 := oM5.setCell 6 (.map (some nb))
      have oM : Own _ (CqC b (nu : Int) (de : Int) rq lp cq xq nb :: _) := oM6
      clear oM0 oM1 oM2 oM3 oM4 oM5 oM6
      have KM := qcalm_set (x := ⟨b, 6, none⟩) (v := .map (some nb)) (qcalm_set (x := ⟨b, 5, none⟩) (v := .pointer (some ⟨xq, 0, none⟩)) (qcalm_set (x := ⟨b, 4, none⟩) (v := .pointer (some ⟨cq, 0, none⟩)) (qcalm_set (x := ⟨b, 3, none⟩) (v := .pointer (some ⟨lp, 0, none⟩)) (qcalm_set (x := ⟨b, 2, none⟩) (v := .pointer (some ⟨rq, 0, none⟩)) (qcalm_set (x := ⟨b, 1, none⟩) (v := .int .i64 (de : Int)) (qcalm_set (x := ⟨b, 0, none⟩) (v := .int .i64 (nu : Int)) K13))))))
      go_upto_if 127 with fail
      go_cut [15] (fun _ wc => Own wc (CqC b (nu : Int) (de : Int) rq lp cq xq nb :: LagR lp (N + 1) D' :: mpI cntV nb (cntN Z s.n ⟨k, j, why⟩ len) :: SfqR rq reb S' :: OrdR cq reb C' :: OrdR xq reb X' :: Sp :: cel cb 38 [.int .i64 k, .int .i64 j, .int .i64 why] :: cel w.heap.size 38 [.int .i64 0, .int .i64 0, .int .i64 0] :: R) ∧ Calm w wc)
      case first =>
        clear HZ
        cases Z with
        | false =>
          have hcN : cntN false s.n ⟨k, j, why⟩ len = s.n := rfl
          have HCN := Lib.hid hcN
          clear hcN
          go_wp2
          go_meet
          rw [HCN.out]
          exact ⟨oM.re [2, 9, 0, 1, 8, 3, 4, 5, 6, 7, 10] 2, KM⟩
        | true =>
          have hcN : cntN true s.n ⟨k, j, why⟩ len = bumpC s.n ⟨k, j, why⟩ len := rfl
          have hcb := hI.cnt k
          have hbu : bumpC s.n ⟨k, j, why⟩ len = mput s.n k ((cntO s.n k).1 + len, if k = j then (cntO s.n k).2 + len else (cntO s.n k).2) := rfl
          rw [hbu] at hcN
          have hlk := fun (w : World) (R : List SP) (o : Own w (mpI cntV nb s.n :: R)) => lookC o k
          unfold cntV at hlk
          generalize cntO s.n k = cn at *
          obtain ⟨cr, cl⟩ := cn
          dsimp only at hcb hlk hcN
          have HLK := Lib.hid hlk
          clear hlk
          have HCN := Lib.hid hcN
          have wr := IntWalk.i64_in (cr + len) (by omega)
          have wl := IntWalk.i64_in (cl + len) (by omega)
          clear hcN hbu
          have b6 := oM.cell 6
          have bl := oM.celLt
          have t0 := Own.cell (T := 38) (vs := [.int .i64 k, .int .i64 j, .int .i64 why]) (oM.up 7) 0
          have t1 := Own.cell (T := 38) (vs := [.int .i64 k, .int .i64 j, .int .i64 why]) (oM.up 7) 1
          have tl := Own.celLt (T := 38) (vs := [.int .i64 k, .int .i64 j, .int .i64 why]) (oM.up 7)
          go_wp2
          refine wp_region_draws (fun L v wc => Own wc (Pb (L 7) (L 8) (v 7) 108 [.int .i64 0, .int .i64 0] [.int .i64 cr, .int .i64 cl] :: CqC b (nu : Int) (de : Int) rq lp cq xq nb :: LagR lp (N + 1) D' :: CqC tb (nu : Int) (de : Int) rq lp cq xq nb :: SfqR rq reb S' :: OrdR cq reb C' :: OrdR xq reb X' :: Sp :: cel cb 38 [.int .i64 k, .int .i64 j, .int .i64 why] :: mpI cntV nb s.n :: cel (w.heap.size + 1) 38 [.int .i64 (-1), .int .i64 (-1), .int .i64 6] :: cel w.heap.size 38 [.int .i64 0, .int .i64 0, .int .i64 0] :: R) ∧ Calm w wc ∧ OVals (fun i => ([some (.pointer (some ⟨b, 0, none⟩)), some (.pointer (some ⟨b, 0, none⟩)), some (.pointer (some ⟨b, 6, none⟩)), some (.map (some nb)), some (.pointer (some ⟨cb, 0, none⟩)), some (.int .i64 k), some (.agg #[.int .i64 cr, .int .i64 cl]), none, none] : List (Option Value)).getD i none) L v) (by kernel_rfl) (by kernel_rfl) (by kernel_rfl) ?h0 ?step ?fin
          case h0 => exact ⟨Pb.no oM.drew, qcalm_drew KM, OVals.no⟩
          case step =>
            refine ⟨DrawStep.mk rfl ?_, DrawStep.mk rfl ?_, DrawStep.mk rfl ?_, DrawStep.mk rfl ?_, DrawStep.mk rfl ?_, DrawStep.mk rfl ?_, DrawStep.mk rfl ?_, DrawStep.mk rfl ?_, DrawStep.mk rfl ?_, trivial⟩
            all_goals intro L v actZ wc hL hd hA hI K' hK
            all_goals obtain ⟨oD, kD, hv⟩ := hI
            all_goals simp [Region.binds] at hd
            all_goals have HV := Lib.hid hv
            all_goals clear hv
            · have c0_ := hA.base 0 (by rfl)
              simp only [List.getElem?_toArray, List.getElem?_cons_zero, Option.getD_some] at c0_
              go_simp
              exact hK.out (.pointer (some ⟨b, 0, none⟩)) _ ⟨oD, kD, HV.out.put 0 (fun _ h => some_eq h)⟩
            · have h0_ : L 0 = true := by simp [hd]
              have c128_ : actZ.tmps[128]?.getD undef = .pointer (some ⟨b, 0, none⟩) := (hA.get 0 h0_).trans (HV.out 0 _ rfl h0_)
              go_simp
              exact hK.out (.pointer (some ⟨b, 0, none⟩)) _ ⟨oD, kD, HV.out.put 1 (fun _ h => some_eq h)⟩
            · have h1_ : L 1 = true := by simp [hd]
              have c129_ : actZ.tmps[129]?.getD undef = .pointer (some ⟨b, 0, none⟩) := (hA.get 1 h1_).trans (HV.out 1 _ rfl h1_)
              go_simp
              exact hK.out (.pointer (some ⟨b, 6, none⟩)) _ ⟨oD, kD, HV.out.put 2 (fun _ h => some_eq h)⟩
            · have h2_ : L 2 = true := by simp [hd]
              have c130_ : actZ.tmps[130]?.getD undef = .pointer (some ⟨b, 6, none⟩) := (hA.get 2 h2_).trans (HV.out 2 _ rfl h2_)
              have u_ := (oD.up 1).cell 6
              go_simp
              exact hK.out (.map (some nb)) _ ⟨oD, kD, HV.out.put 3 (fun _ h => some_eq h)⟩
            · have c10_ := hA.base 10 (by rfl)
              simp only [List.getElem?_toArray, List.getElem?_cons_zero, List.getElem?_cons_succ, Option.getD_some] at c10_
              go_simp
              exact hK.out (.pointer (some ⟨cb, 0, none⟩)) _ ⟨oD, kD, HV.out.put 4 (fun _ h => some_eq h)⟩
            · have h4_ : L 4 = true := by simp [hd]
              have c132_ : actZ.tmps[132]?.getD undef = .pointer (some ⟨cb, 0, none⟩) := (hA.get 4 h4_).trans (HV.out 4 _ rfl h4_)
              have u_ := Own.cell (T := 38) (vs := [.int .i64 k, .int .i64 j, .int .i64 why]) (oD.up 8) 0
              go_simp
              exact hK.out (.int .i64 k) _ ⟨oD, kD, HV.out.put 5 (fun _ h => some_eq h)⟩
            · have h3_ : L 3 = true := by simp [hd]
              have c131_ : actZ.tmps[131]?.getD undef = .map (some nb) := (hA.get 3 h3_).trans (HV.out 3 _ rfl h3_)
              have h5_ : L 5 = true := by simp [hd]
              have c133_ : actZ.tmps[133]?.getD undef = .int .i64 k := (hA.get 5 h5_).trans (HV.out 5 _ rfl h5_)
              have u_ := HLK.out _ _ (oD.up 9)
              go_simp
              exact hK.out (.agg #[.int .i64 cr, .int .i64 cl]) _ ⟨oD, kD, HV.out.put 6 (fun _ h => some_eq h)⟩
            · rw [hL] at oD
              go_simp
              exact hK.out _ _ ⟨Pb.new oD, qcalm_alloc kD, HV.out.put 7 (fun _ h => by cases h)⟩
            · have h7_ : L 7 = true := by simp [hd]
              have c15_ := hA.get 7 h7_
              have h6_ : L 6 = true := by simp [hd]
              have c134_ : actZ.tmps[134]?.getD undef = .agg #[.int .i64 cr, .int .i64 cl] := (hA.get 6 h6_).trans (HV.out 6 _ rfl h6_)
              rw [h7_, hL] at oD
              obtain ⟨gN, hgN, oN⟩ := Pb.val oD
              rw [hgN] at c15_
              have hgN := Lib.hid hgN
              have n0_ := oN.cell 0
              have n1_ := oN.cell 1
              have nf_ := oN.frozen
              have nl_ := oN.celLt
              go_simp
              have oY := (oN.setCell 0 (.int .i64 cr)).setCell 1 (.int .i64 cl)
              have oQ := Pb.put (l := L 7) (v := v 7) (zs := [.int .i64 0, .int .i64 0]) oY h7_ hgN.out
              exact hK.out undef _ ⟨oQ, qcalm_set (qcalm_set kD), HV.out.put 8 (fun _ h => by cases h)⟩
          case fin =>
            rintro L v wc hall ⟨oD, kD, hv⟩
            rw [hall 7 (by decide), hall 8 (by decide)] at oD
            obtain ⟨gN, hgN, oN⟩ := Pb.got oD
            clear hv hall oD oM KM
            simp only [putAll, Act.put, List.setIfInBounds_toArray, List.set_cons_zero, List.set_cons_succ]
            have n0 := oN.cell 0
            have n1 := oN.cell 1
            have nf := oN.frozen
            have nl := oN.celLt
            have oP := oN.setCell 0 (.int .i64 (cr + len))
            have p0 := oP.cell 0
            have p1 := oP.cell 1
            have pf := oP.frozen
            have pl := oP.celLt
            have x0 := Own.cell (T := 38) (vs := [.int .i64 k, .int .i64 j, .int .i64 why]) (oP.up 8) 0
            have x1 := Own.cell (T := 38) (vs := [.int .i64 k, .int .i64 j, .int .i64 why]) (oP.up 8) 1
            have KP := qcalm_set (x := ⟨gN, 0, none⟩) (v := .int .i64 (cr + len)) kD
            clear kD b6 bl t0 t1 tl
            by_cases hkj : k = j
            · have hb : (k == j) = true := by simpa using hkj
              have hcN := HCN.out
              rw [if_pos hkj] at hcN
              have HCN := Lib.hid hcN
              clear hkj hcN
              have oQ := oP.setCell 1 (.int .i64 (cl + len))
              have q0 := oQ.cell 0
              have q1 := oQ.cell 1
              have y0 := Own.cell (T := 38) (vs := [.int .i64 k, .int .i64 j, .int .i64 why]) (oQ.up 8) 0
              have y6 := (oQ.up 1).cell 6
              have yl := (oQ.up 1).celLt
              have KQ := qcalm_set (x := ⟨gN, 1, none⟩) (v := .int .i64 (cl + len)) KP
              go_wp2
              refine wp_region_tail 7 (by kernel_rfl) (by kernel_rfl) ?_
              simp only [List.take_succ_cons, List.take_zero, List.drop_succ_cons, List.drop_zero]
              repeat still_step
              refine wpStill_nil ?_
              go_wp2_with (at_mapUpdate; refine wpList_mapUpdate_mpI (f := cntV) rfl _ _ _ rfl Tryz.underlying93 Tryz.underlying3 ((oQ.up 9).drew) k (cr + len, cl + len) rfl rfl rfl ?c1)
              case c1 =>
              intro w5 o5 k5
              have K5 := (qcalm_drew KQ).trans k5
              go_wp2
              go_meet
              rw [HCN.out]
              exact ⟨o5.re [1, 4, 10, 2, 3, 0] 3, K5⟩
            · have hb : (k == j) = false := by simpa using hkj
              have hcN := HCN.out
              rw [if_neg hkj] at hcN
              have HCN := Lib.hid hcN
              clear hkj hcN
              have y6 := (oP.up 1).cell 6
              have yl := (oP.up 1).celLt
              go_wp2
              refine wp_region_tail 7 (by kernel_rfl) (by kernel_rfl) ?_
              simp only [List.take_succ_cons, List.take_zero, List.drop_succ_cons, List.drop_zero]
              repeat still_step
              refine wpStill_nil ?_
              go_wp2_with (at_mapUpdate; refine wpList_mapUpdate_mpI (f := cntV) rfl _ _ _ rfl Tryz.underlying93 Tryz.underlying3 ((oP.up 9).drew) k (cr + len, cl) rfl rfl rfl ?c1)
              case c1 =>
              intro w5 o5 k5
              have K5 := (qcalm_drew KP).trans k5
              go_wp2
              go_meet
              rw [HCN.out]
              exact ⟨o5.re [1, 4, 10, 2, 3, 0] 3, K5⟩
      case rest =>
        obtain ⟨o14, k14⟩ := hcut
        clear KM oM o13 K13
        have hu : Uniq (cntN Z s.n ⟨k, j, why⟩ len) := by
          unfold cntN bumpC
          split
          · exact hI.nu.mput _ _
          · exact hI.nu
        have hrs := reset_spec hu o14
        clear hu
        go_wp2_with fail
        refine hrs.mono ?_
        rintro e15 w15 ⟨rfl, o15, k15⟩
        clear hrs o14
        have K15 := k14.trans k15
        clear k14 k15
        have x0 := Own.cell (T := 38) (vs := [.int .i64 k, .int .i64 j, .int .i64 why]) (o15.up 7) 0
        have x1 := Own.cell (T := 38) (vs := [.int .i64 k, .int .i64 j, .int .i64 why]) (o15.up 7) 1
        have x2 := Own.cell (T := 38) (vs := [.int .i64 k, .int .i64 j, .int .i64 why]) (o15.up 7) 2
        have z0 := Own.cell (T := 38) (vs := [.int .i64 0, .int .i64 0, .int .i64 0]) (o15.up 8) 0
        have z1 := Own.cell (T := 38) (vs := [.int .i64 0, .int .i64 0, .int .i64 0]) (o15.up 8) 1
        have z2 := Own.cell (T := 38) (vs := [.int .i64 0, .int .i64 0, .int .i64 0]) (o15.up 8) 2
        have zf := Own.frozen (T := 38) (vs := [.int .i64 0, .int .i64 0, .int .i64 0]) (o15.up 8)
        have zl := Own.celLt (T := 38) (vs := [.int .i64 0, .int .i64 0, .int .i64 0]) (o15.up 8)
        have oZ0 := Own.setCell (T := 38) (vs := [.int .i64 0, .int .i64 0, .int .i64 0]) (o15.up 8) 0 (.int .i64 k)
        have oZ1 := Own.setCell (T := 38) (vs := [.int .i64 k, .int .i64 0, .int .i64 0]) oZ0 1 (.int .i64 j)
        have oZ2 := Own.setCell (T := 38) (vs := [.int .i64 k, .int .i64 j, .int .i64 0]) oZ1 2 (.int .i64 why)
        clear oZ0 oZ1
        have KZ := qcalm_set (x := ⟨w.heap.size, 2, none⟩) (v := .int .i64 why) (qcalm_set (x := ⟨w.heap.size, 1, none⟩) (v := .int .i64 j) (qcalm_set (x := ⟨w.heap.size, 0, none⟩) (v := .int .i64 k) K15))
        go_wp2
        refine bodyPost_ret (v := .tuple #[chV ⟨k, j, why⟩, .int .i64 0]) ?_ rfl ?_
        · exact chRow2 (p := w.heap.size) rfl rfl rfl oZ2
        · rw [HST.out]
          have oG := oZ2.re [0, 8] 2
          have oH := oG.re [0, 3, 1, 2, 4, 5, 6]
          unfold nextC
          dsimp only
          rw [HS'.out, HC'.out, HX'.out, HD'.out, HZ.out]
          exact ⟨rfl, CqF.iff.2 ⟨rq, lp, cq, xq, nb, oH⟩, KZ⟩
end
end Go.Proofs.YtkmlkpfabkhleaaGreat

/- Cifq: New, Join. -/
namespace Go.Proofs.YtkmlkpfabkhleaaGreat
open Go.RowKit
open SP
section
variable {w w' : World} {R : List SP} {b rp lp cp xp nb N : Nat} {num den reb : Int} {s : Cq} {Sp : SP}

structure AlOk (nu de : Nat) : Prop where
  pos : 0 < nu
  lt : nu < de
  le : de ≤ 1048576

set_option maxHeartbeats 800000 in
theorem validAlpha_ok {nu de : Nat} (h : AlOk nu de) (o : Own w R) : Calls Tryz.prog 24 #[.agg #[.int .i64 (nu : Int), .int .i64 (de : Int)]] w (Ret (.bool true) R w) := by
  have h1 : (0 : Int) < (nu : Int) := by have := h.pos; omega
  have h2 : (nu : Int) < (de : Int) := by have := h.lt; omega
  have h3 : (de : Int) ≤ 1048576 := by have := h.le; omega
  have d1 : decide ((0 : Int) < (nu : Int)) = true := by simpa using h1
  have d2 : decide ((nu : Int) < (de : Int)) = true := by simpa using h2
  have d3 : decide ((de : Int) ≤ 1048576) = true := by simpa using h3
  go_enter Tryz.func24, Tryz.ntmps24
  go_wp2
  go_ret
  exact ⟨by simp [], o.alloc _ |>.drop, ⟨rfl, rfl, rfl⟩⟩

theorem ordNew_spec (r : Int) (h1 : 1 ≤ r) (h2 : r ≤ 1099511627776) (o : Own w R) :
    Calls Tryz.prog 55 #[.int .i64 r] w fun e w' => ∃ b, Ret (.tuple #[.pointer (some ⟨b, 0, none⟩), .int .i64 0]) (OrdR b r ⟨[], [], 0⟩ :: R) w e w' := compNew_spec r h1 h2 o

set_option maxHeartbeats 3200000 in
set_option maxRecDepth 100000 in
theorem cqNew_spec {nu de : Nat} (h : AlOk nu de) (r : Int) (h1 : 1 ≤ r) (h2 : r ≤ 1099511627776) (o : Own w R) :
    Calls Tryz.prog 16 #[.agg #[.int .i64 (nu : Int), .int .i64 (de : Int)], .int .i64 r] w
      fun e w' => ∃ b, Ret (.tuple #[.pointer (some ⟨b, 0, none⟩), .int .i64 0]) (CqF b (nu : Int) (de : Int) r 0 cq0 :: R) w e w' := by
  have hmm := @run_makeMap Tryz.prog
  have oA : Own _ (cel w.heap.size 26 [.int .i64 (nu : Int), .int .i64 (de : Int)] :: R) := o.alloc (.cells #[.int .i64 (nu : Int), .int .i64 (de : Int)] 26)
  go_enter Tryz.func16, Tryz.ntmps16
  go_wp2_with fail
  refine (sfqNew_spec r h1 h2 oA).mono ?_
  rintro e1 w1 ⟨rp, rfl, o1, k1⟩
  have c0 := (o1.up 1).cell 0
  have c1 := (o1.up 1).cell 1
  go_wp2_with fail
  refine (validAlpha_ok h o1).mono ?_
  rintro e2 w2 ⟨rfl, o2, k2⟩
  have K2 : Calm w w2 := (qcalm_alloc (Calm.refl w)).trans (k1.trans k2)
  clear c0 c1
  have c0 := (o2.up 1).cell 0
  have c1 := (o2.up 1).cell 1
  go_upto_region 4 with fail
  go_cut [8] (fun v wc => ∃ sb lp nb : Nat, v = .pointer (some ⟨sb, 0, none⟩) ∧ Own wc (cel sb 95 [.int .i64 (nu : Int), .int .i64 (de : Int), .pointer (some ⟨rp, 0, none⟩), .pointer (some ⟨lp, 0, none⟩), .pointer none, .pointer none, .map (some nb)] :: LagR lp 0 [] :: mpI cntV nb [] :: SfqR rp r ⟨[], fun _ => 0, 0, 0⟩ :: R) ∧ Calm w wc)
  case first =>
    have oX1 : Own w2.drew _ := o2.drew
    have oX2 : Own _ _ := (o2.drew).mpI_made (f := cntV) (α := Int × Int)
    have g0 := (oX2.up 2).cell 0
    have g1 := (oX2.up 2).cell 1
    go_region_held3 (fun w' => w'.cell? ⟨w.heap.size, 0, none⟩ = some (.int .i64 (nu : Int)) ∧ w'.cell? ⟨w.heap.size, 1, none⟩ = some (.int .i64 (de : Int))) (go_keep) (first | (go_at_call 54; first | (refine (lagNew_spec oX1).mono ?_; rintro _ w3 ⟨lp, rfl, o3, k3⟩; have d0 := (o3.up 2).cell 0; have d1 := (o3.up 2).cell 1; have oY := o3.mpI_made (f := cntV) (α := Int × Int); have e0 := (oY.up 3).cell 0; have e1 := (oY.up 3).cell 1) | (refine (lagNew_spec oX2).mono ?_; rintro _ w3 ⟨lp, rfl, o3, k3⟩; have d0 := (o3.up 3).cell 0; have d1 := (o3.up 3).cell 1)))
    all_goals go_wp2
    all_goals go_meet
    · have oZ := oY.alloc (.cells #[.int .i64 (nu : Int), .int .i64 (de : Int), .pointer (some ⟨rp, 0, none⟩), .pointer (some ⟨lp, 0, none⟩), .pointer none, .pointer none, .map (some w3.heap.size)] 95)
      simp only [World.size_alloc] at oZ
      exact ⟨w3.heap.size + 1, lp, w3.heap.size, rfl, (oZ.re [4, 0, 2, 1, 3] 1), qcalm_alloc (qcalm_alloc (K2.trans ((qcalm_drew (Calm.refl w2)).trans k3)))⟩
    · have oZ := o3.alloc (.cells #[.int .i64 (nu : Int), .int .i64 (de : Int), .pointer (some ⟨rp, 0, none⟩), .pointer (some ⟨lp, 0, none⟩), .pointer none, .pointer none, .map (some w2.heap.size)] 95)
      exact ⟨w3.heap.size, lp, w2.heap.size, rfl, (oZ.re [4, 0, 1, 2, 3] 1), qcalm_alloc (K2.trans ((qcalm_alloc (qcalm_drew (Calm.refl w2))).trans k3))⟩
  case rest =>
    obtain ⟨sb, lp, nb, rfl, oS, kS⟩ := hcut
    clear o2 K2 c0 c1 o1 k1 k2 oA
    go_wp2_with fail
    refine (ordNew_spec r h1 h2 oS).mono ?_
    rintro e3 w3 ⟨cp, rfl, o3, k3⟩
    have x4 := (o3.up 1).cell 4
    have xf := (o3.up 1).frozen
    have xl := (o3.up 1).celLt
    have oT := (o3.up 1).setCell 4 (.pointer (some ⟨cp, 0, none⟩))
    have K3 := qcalm_set (x := ⟨sb, 4, none⟩) (v := .pointer (some ⟨cp, 0, none⟩)) (kS.trans k3)
    clear oS kS k3
    go_wp2_with fail
    refine (ordNew_spec r h1 h2 oT).mono ?_
    rintro e4 w4 ⟨xp, rfl, o4, k4⟩
    have y5 := (o4.up 1).cell 5
    have yf := (o4.up 1).frozen
    have yl := (o4.up 1).celLt
    have oU := (o4.up 1).setCell 5 (.pointer (some ⟨xp, 0, none⟩))
    have K4 := qcalm_set (x := ⟨sb, 5, none⟩) (v := .pointer (some ⟨xp, 0, none⟩)) (K3.trans k4)
    clear oT K3 k4
    go_wp2
    go_ret2
    exact ⟨sb, rfl, CqF.iff.2 ⟨rp, lp, cp, xp, nb, oU.re [0, 5, 3, 4, 2, 1]⟩, K4⟩

set_option maxHeartbeats 1600000 in
set_option maxRecDepth 100000 in
/-- A flow joins without an error. -/
theorem cqJoin_ok (f wt : Int) (h1 : joinE s.R f wt = 0) (h2 : (nJoin s.D f wt).1 = 0) (o : Own w (CqF b num den reb N s :: R)) :
    Calls Tryz.prog 38 #[.pointer (some ⟨b, 0, none⟩), .int .i64 f, .int .i64 wt] w (Ret (.int .i64 0) (CqF b num den reb N { s with R := joinS s.R f wt, D := (nJoin s.D f wt).2 } :: R) w) := by
  obtain ⟨rp, lp, cp, xp, nb, o1⟩ := CqF.iff.1 o
  have c2 := o1.cell 2
  have cl := o1.celLt
  have hq := sfqJoin_spec f wt (o1.re [1])
  unfold joinR at hq
  rw [if_pos h1, h1] at hq
  dsimp only at hq
  go_enter Tryz.func38, Tryz.ntmps38
  go_wp2_with fail
  refine hq.mono ?_
  rintro e1 w1 ⟨rfl, o2, k2⟩
  clear hq c2 cl o1
  have c3 := (o2.up 1).cell 3
  have cl := (o2.up 1).celLt
  have hq := lagJoin_spec f wt (o2.re [2])
  rw [h2] at hq
  go_wp2_with fail
  refine hq.mono ?_
  rintro e3 w3 ⟨rfl, o3, k3⟩
  go_wp2
  go_ret
  exact ⟨rfl, CqF.iff.2 ⟨rp, lp, cp, xp, nb, o3.re [2, 1, 0]⟩, k2.trans k3⟩
end
end Go.Proofs.YtkmlkpfabkhleaaGreat

/- The reference's comparison of products; the closed form of leading flows. -/
namespace Go.Proofs.YtkmlkpfabkhleaaGreat
open Go.RowKit
open SP
section
variable {w w' : World} {R : List SP}

set_option maxHeartbeats 800000 in
theorem refLess_spec (x y : Nat) (o : Own w R) : Calls Tryz.prog 99 #[wideV x, wideV y] w (Ret (.bool (decide (x < y))) R w) := by
  unfold wideV
  go_enter Tryz.func99, Tryz.ntmps99
  go_wp2
  go_ret
  exact ⟨rfl, (o.alloc _).drop.alloc _ |>.drop, ⟨rfl, rfl, rfl⟩⟩

set_option maxHeartbeats 1600000 in
set_option maxRecDepth 100000 in
theorem refCross_spec (a b c d : Nat) (ha : a < 9223372036854775808) (hb : b < 4294967296) (hc : c < 9223372036854775808) (hd : d < 4294967296) (h1 : a * b < 9223372036854775808) (h2 : c * d < 9223372036854775808) (o : Own w R) :
    Calls Tryz.prog 52 #[.int .u64 (a : Int), .int .u64 (b : Int), .int .u64 (c : Int), .int .u64 (d : Int)] w (Ret (.int .i64 (cmpZ ((a * b : Nat) : Int) ((c * d : Nat) : Int))) R w) := by
  have m1 := refMul_spec a b ha hb h1 o
  have m2 := fun (w : World) (R : List SP) (o : Own w R) => refMul_spec c d hc hd h2 o
  generalize a * b = x at *
  generalize c * d = y at *
  have M2 := Lib.hid m2
  clear m2
  go_enter Tryz.func52, Tryz.ntmps52
  go_wp2_with fail
  refine m1.mono ?_
  rintro e1 w1 ⟨rfl, o1, k1⟩
  go_wp2_with fail
  refine (M2.out _ _ o1).mono ?_
  rintro e2 w2 ⟨rfl, o2, k2⟩
  clear m1
  have oA := (o2.alloc (.cells #[.int .u64 0, .int .u64 (x : Int)] 175)).alloc (.cells #[.int .u64 0, .int .u64 (y : Int)] 175)
  simp only [World.size_alloc] at oA
  have q0 := Own.cell (T := 175) (vs := [.int .u64 0, .int .u64 (y : Int)]) oA 0
  have q1 := Own.cell (T := 175) (vs := [.int .u64 0, .int .u64 (y : Int)]) oA 1
  have p0 := Own.cell (T := 175) (vs := [.int .u64 0, .int .u64 (x : Int)]) (oA.up 1) 0
  have p1 := Own.cell (T := 175) (vs := [.int .u64 0, .int .u64 (x : Int)]) (oA.up 1) 1
  have hc1 := refLess_spec x y oA
  unfold wideV at hc1
  have K2 : Calm w w2 := k1.trans k2
  by_cases hxy : x < y
  · have hd : decide (x < y) = true := by simpa using hxy
    rw [hd] at hc1
    have hz : cmpZ (x : Int) (y : Int) = -1 := by unfold cmpZ; rw [if_pos (by omega)]
    have HZ := Lib.hid hz
    clear hxy hd hz
    go_wp2_with fail
    refine hc1.mono ?_
    rintro e3 w3 ⟨rfl, o3, k3⟩
    go_wp2
    go_ret
    exact ⟨by rw [HZ.out]; rfl, o3.drop.drop, (qcalm_alloc (qcalm_alloc K2)).trans k3⟩
  · have hd : decide (x < y) = false := by simpa using hxy
    rw [hd] at hc1
    have HN := Lib.hid hxy
    clear hxy hd
    go_wp2_with fail
    refine hc1.mono ?_
    rintro e3 w3 ⟨rfl, o3, k3⟩
    have r0 := Own.cell (T := 175) (vs := [.int .u64 0, .int .u64 (y : Int)]) o3 0
    have r1 := Own.cell (T := 175) (vs := [.int .u64 0, .int .u64 (y : Int)]) o3 1
    have s0 := Own.cell (T := 175) (vs := [.int .u64 0, .int .u64 (x : Int)]) (o3.up 1) 0
    have s1 := Own.cell (T := 175) (vs := [.int .u64 0, .int .u64 (x : Int)]) (o3.up 1) 1
    have hc2 := refLess_spec y x o3
    unfold wideV at hc2
    by_cases hyx : y < x
    · have hd : decide (y < x) = true := by simpa using hyx
      rw [hd] at hc2
      have hz : cmpZ (x : Int) (y : Int) = 1 := by have := HN.out; unfold cmpZ; rw [if_neg (by omega), if_pos (by omega)]
      have HZ := Lib.hid hz
      clear hyx hd hz
      go_wp2_with fail
      refine hc2.mono ?_
      rintro e4 w4 ⟨rfl, o4, k4⟩
      go_wp2
      go_ret
      exact ⟨by rw [HZ.out]; rfl, o4.drop.drop, ((qcalm_alloc (qcalm_alloc K2)).trans k3).trans k4⟩
    · have hd : decide (y < x) = false := by simpa using hyx
      rw [hd] at hc2
      have hz : cmpZ (x : Int) (y : Int) = 0 := by have := HN.out; unfold cmpZ; rw [if_neg (by omega), if_neg (by omega)]
      have HZ := Lib.hid hz
      clear hyx hd hz
      go_wp2_with fail
      refine hc2.mono ?_
      rintro e4 w4 ⟨rfl, o4, k4⟩
      go_wp2
      go_ret
      exact ⟨by rw [HZ.out]; rfl, o4.drop.drop, ((qcalm_alloc (qcalm_alloc K2)).trans k3).trans k4⟩

set_option maxHeartbeats 800000 in
theorem vAlpha22_ok {nu de : Nat} (h : AlOk nu de) (o : Own w R) : Calls Tryz.prog 25 #[.agg #[.int .i64 (nu : Int), .int .i64 (de : Int)]] w (Ret (.bool true) R w) := by
  have h1 : (0 : Int) < (nu : Int) := by have := h.pos; omega
  have h2 : (nu : Int) < (de : Int) := by have := h.lt; omega
  have h3 : (de : Int) ≤ 1048576 := by have := h.le; omega
  have d1 : decide ((0 : Int) < (nu : Int)) = true := by simpa using h1
  have d2 : decide ((nu : Int) < (de : Int)) = true := by simpa using h2
  have d3 : decide ((de : Int) ≤ 1048576) = true := by simpa using h3
  go_enter Tryz.func25, Tryz.ntmps25
  go_wp2
  go_ret
  exact ⟨by simp [], o.alloc _ |>.drop, ⟨rfl, rfl, rfl⟩⟩
set_option maxHeartbeats 3200000 in
set_option maxRecDepth 100000 in
theorem lead_walk {nu de ch re : Nat} {Z : Int} (hA : AlOk nu de) (hch : ch < 1000000) (hre : re < 1000000) (hZ : decide (0 ≤ Z) = true)
    (hcx : ∀ (w : World) (R : List SP), Own w R → Calls Tryz.prog 52 #[.int .u64 ((re : Int) + 4096), .int .u64 (de : Int), .int .u64 (nu : Int), .int .u64 (ch : Int)] w (Ret (.int .i64 Z) R w)) (o : Own w R) :
    Calls Tryz.prog 14 #[.agg #[.int .i64 (nu : Int), .int .i64 (de : Int)], .int .i64 (ch : Int), .int .i64 (re : Int), .int .i64 4096] w (Ret (.bool true) R w) := by
  have oA := o.alloc (.cells #[.int .i64 (nu : Int), .int .i64 (de : Int)] 26)
  have q0 := Own.cell (T := 26) (vs := [.int .i64 (nu : Int), .int .i64 (de : Int)]) oA 0
  have q1 := Own.cell (T := 26) (vs := [.int .i64 (nu : Int), .int .i64 (de : Int)]) oA 1
  have hde := hA.le
  have hnu := hA.lt
  have HCX := Lib.hid hcx
  clear hcx
  have f1 : decide ((ch : Int) < 0) = false := decide_eq_false (by omega)
  have f2 : decide ((re : Int) < 0) = false := decide_eq_false (by omega)
  have f3 : decide (4611686018427387904 < (ch : Int)) = false := decide_eq_false (by omega)
  have f4 : decide (4611686018427387904 < (re : Int)) = false := decide_eq_false (by omega)
  have w1 : wrap64 ((re : Int) + 4096) = (re : Int) + 4096 := by unfold wrap64; omega
  have w2 : IntKind.u64.wrap ((re : Int) + 4096) = (re : Int) + 4096 := by have h := wrapU (x := re + 4096) (by omega); rw [Int.natCast_add] at h; exact h
  have w3 := wrapU (x := de) (by omega)
  have w4 := wrapU (x := nu) (by omega)
  have w5 := wrapU (x := ch) (by omega)
  have W := Lib.hid (And.intro w1 (And.intro w2 (And.intro w3 (And.intro w4 w5))))
  have HZ := Lib.hid hZ
  clear w1 w2 w3 w4 w5 hZ hde hnu hch hre
  go_enter Tryz.func14, Tryz.ntmps14
  go_wp2_with fail
  refine (vAlpha22_ok hA oA).mono ?_
  rintro e1 v1 ⟨rfl, o1, k1⟩
  go_upto_if 35 with fail
  have r0 := Own.cell (T := 26) (vs := [.int .i64 (nu : Int), .int .i64 (de : Int)]) o1 0
  have r1 := Own.cell (T := 26) (vs := [.int .i64 (nu : Int), .int .i64 (de : Int)]) o1 1
  clear q0 q1 f1 f2 f3 f4
  go_wp2_with fail
  have w1 : wrap64 ((re : Int) + 4096) = (re : Int) + 4096 := W.out.1
  rw [w1, W.out.2.1, W.out.2.2.1, W.out.2.2.2.1, W.out.2.2.2.2]
  refine (HCX.out _ _ o1).mono ?_
  rintro e2 v2 ⟨rfl, o2, k2⟩
  go_wp2
  go_ret
  exact ⟨by simp only [HZ.out]; rfl, o2.drop, (qcalm_alloc (Calm.refl w)).trans (k1.trans k2)⟩
theorem lead_spec {nu de ch re : Nat} (hA : AlOk nu de) (hch : ch < 1000000) (hre : re < 1000000) (hle : -(4096 * (de : Int)) ≤ (re : Int) * (de : Int) - (nu : Int) * (ch : Int)) (o : Own w R) :
    Calls Tryz.prog 14 #[.agg #[.int .i64 (nu : Int), .int .i64 (de : Int)], .int .i64 (ch : Int), .int .i64 (re : Int), .int .i64 4096] w (Ret (.bool true) R w) := by
  have hde := hA.le
  have hnu := hA.lt
  have b1 : (re + 4096) * de ≤ 1004096 * 1048576 := Nat.mul_le_mul (by omega) hde
  have b2 : nu * ch ≤ 1048576 * 1000000 := Nat.mul_le_mul (by omega) (by omega)
  have hm : ((nu * ch : Nat) : Int) ≤ (((re + 4096) * de : Nat) : Int) := by
    rw [Int.natCast_mul, Int.natCast_mul, Int.natCast_add, Int.add_mul]
    generalize (re : Int) * (de : Int) = x at *
    generalize (nu : Int) * (ch : Int) = y at *
    omega
  refine lead_walk (Z := cmpZ (((re + 4096) * de : Nat) : Int) ((nu * ch : Nat) : Int)) hA hch hre ?_ ?_ o
  · refine decide_eq_true ?_
    unfold cmpZ
    rw [if_neg (by omega)]
    split <;> omega
  · intro w R o
    have h := refCross_spec (re + 4096) de nu ch (by omega) (by omega) (by omega) (by omega) (by omega) (by omega) o
    rw [Int.natCast_add] at h
    exact h
end
end Go.Proofs.YtkmlkpfabkhleaaGreat

/- Cifq, plain: how long a lagging flow waits at most. -/
namespace Go.Proofs.YtkmlkpfabkhleaaGreat
open Go.RowKit
open SP

/-! ### Turns: how many services may come before a flow's own -/
theorem sumI_mono {α : Type} {g h : α → Int} : ∀ {l : List α}, (∀ x ∈ l, g x ≤ h x) → sumI (l.map g) ≤ sumI (l.map h)
  | [], _ => Int.le_refl _
  | x :: l, hh => by
    have h1 := hh x (by simp)
    have h2 := sumI_mono (l := l) fun y hy => hh y (by simp [hy])
    rw [List.map_cons, List.map_cons, sumI_cons, sumI_cons]; omega
theorem sumI_less {α : Type} {g h : α → Int} : ∀ {l : List α}, (∀ x ∈ l, g x ≤ h x) → (∃ x ∈ l, g x + 1 ≤ h x) → sumI (l.map g) + 1 ≤ sumI (l.map h)
  | [], _, he => by obtain ⟨x, hx, _⟩ := he; cases hx
  | x :: l, hh, he => by
    have h1 := hh x (by simp)
    have h2 := sumI_mono (l := l) fun y hy => hh y (by simp [hy])
    rw [List.map_cons, List.map_cons, sumI_cons, sumI_cons]
    obtain ⟨y, hy, hl⟩ := he
    rcases List.mem_cons.1 hy with rfl | hy
    · omega
    · have := sumI_less (l := l) (fun y hy => hh y (by simp [hy])) ⟨y, hy, hl⟩
      omega
theorem sumI_nn {l : List Int} (h : ∀ x ∈ l, 0 ≤ x) : 0 ≤ sumI l := by
  induction l with
  | nil => exact Int.le_refl _
  | cons x l ih =>
    have h1 := h x (by simp)
    have h2 := ih fun y hy => h y (by simp [hy])
    rw [sumI_cons]; omega

theorem cst_pos {sz w : Int} (hs : 1 ≤ sz) (h1 : 1 ≤ w) (h2 : w ≤ 16) : 0 < cst sz w := by
  have := unit1_range h1 h2
  unfold cst
  exact Int.mul_pos (by omega) (by omega)
def trn1 (sz : Int) (v : Int → Int) (l : Int) (p : Int × Int) : Int := if p.1 = l then 0 else if v l < v p.1 then 0 else (v l - v p.1) / cst sz p.2 + 1
def trn (sz : Int) (P : List (Int × Int)) (v : Int → Int) (l : Int) : Int := 1 + sumI (P.map (trn1 sz v l))
def turnT (P : List (Int × Int)) (l w : Int) : Int := 1 + sumI (P.map fun p => if p.1 = l then 0 else p.2 / w + 1)
section
variable {sz : Int} {P : List (Int × Int)} {v v' : Int → Int} {l : Int}
theorem trn1_nn (hc : ∀ p ∈ P, 0 < cst sz p.2) {p : Int × Int} (hp : p ∈ P) : 0 ≤ trn1 sz v l p := by
  unfold trn1
  split
  · exact Int.le_refl _
  · split
    · exact Int.le_refl _
    · have := Int.ediv_nonneg (show 0 ≤ v l - v p.1 by omega) (show 0 ≤ cst sz p.2 by have := hc p hp; omega)
      omega
theorem trn_pos (hc : ∀ p ∈ P, 0 < cst sz p.2) : 1 ≤ trn sz P v l := by
  unfold trn
  have := sumI_nn (l := P.map (trn1 sz v l)) fun x hx => by obtain ⟨p, hp, rfl⟩ := List.mem_map.1 hx; exact trn1_nn hc hp
  omega
theorem trn_shift {d : Int} (hl : v' l = v l - d) (h : ∀ p ∈ P, v' p.1 = v p.1 - d) : trn sz P v' l = trn sz P v l := by
  unfold trn
  congr 1
  congr 1
  refine List.map_congr_left fun p hp => ?_
  unfold trn1
  rw [hl, h p hp]
  have e : v l - d - (v p.1 - d) = v l - v p.1 := by omega
  rw [e]
  by_cases h1 : v l < v p.1
  · rw [if_pos (show v l - d < v p.1 - d by omega), if_pos h1]
  · rw [if_neg (show ¬ v l - d < v p.1 - d by omega), if_neg h1]
/-- Another flow is served: one turn fewer. -/
theorem trn_dec (hc : ∀ p ∈ P, 0 < cst sz p.2) (hl : v' l = v l) (h : ∀ p ∈ P, p.1 ≠ l → v p.1 ≤ v' p.1) {p : Int × Int} (hp : p ∈ P) (hne : p.1 ≠ l) (hv : v p.1 ≤ v l) (hs : v' p.1 = v p.1 + cst sz p.2) :
    trn sz P v' l + 1 ≤ trn sz P v l := by
  unfold trn
  have := sumI_less (l := P) (g := trn1 sz v' l) (h := trn1 sz v l) (fun q hq => ?_) ⟨p, hp, ?_⟩
  · omega
  · unfold trn1
    by_cases hql : q.1 = l
    · rw [if_pos hql, if_pos hql]; exact Int.le_refl _
    · rw [if_neg hql, if_neg hql, hl]
      have h1 := h q hq hql
      have h2 := hc q hq
      by_cases h3 : v l < v' q.1
      · rw [if_pos h3]
        split
        · exact Int.le_refl _
        · have := Int.ediv_nonneg (show 0 ≤ v l - v q.1 by omega) (show 0 ≤ cst sz q.2 by omega)
          omega
      · rw [if_neg h3, if_neg (by omega)]
        have := Int.ediv_le_ediv h2 (show v l - v' q.1 ≤ v l - v q.1 by omega)
        omega
  · unfold trn1
    have h2 := hc p hp
    rw [if_neg hne, if_neg hne, hl, hs, if_neg (show ¬ v l < v p.1 by omega)]
    by_cases h3 : v l < v p.1 + cst sz p.2
    · rw [if_pos h3]
      have := Int.ediv_nonneg (show 0 ≤ v l - v p.1 by omega) (show 0 ≤ cst sz p.2 by omega)
      omega
    · rw [if_neg h3]
      have e : v l - v p.1 = (v l - (v p.1 + cst sz p.2)) + 1 * cst sz p.2 := by omega
      rw [e, Int.add_mul_ediv_right _ _ (by omega)]
      omega
theorem unit_quot {sz w w' : Int} (hs : 1 ≤ sz) (h1 : 1 ≤ w) (h2 : w ≤ 16) (h3 : 1 ≤ w') (h4 : w' ≤ 16) : cst sz w / cst sz w' = w' / w := by
  have u := unit1_range h1 h2
  have u' := unit1_range h3 h4
  unfold cst
  rw [Int.mul_ediv_mul_of_pos _ _ (show 0 < sz by omega)]
  have e : unit1 w * w = unit1 w' * w' := by rw [unit1_mul h1 h2, unit1_mul h3 h4]
  rw [← Int.mul_ediv_mul_of_pos_left (unit1 w) (unit1 w') (show 0 < w by omega), e, Int.mul_ediv_mul_of_pos _ _ (show 0 < unit1 w' by omega)]
theorem trn_bound (hsz : 1 ≤ sz) (hP : PtOk P) {w base : Int} (hw : 1 ≤ w ∧ w ≤ 16) (hl : v l ≤ base + cst sz w) (h : ∀ p ∈ P, base ≤ v p.1) : trn sz P v l ≤ turnT P l w := by
  unfold trn turnT
  have := sumI_mono (l := P) (g := trn1 sz v l) (h := fun p => if p.1 = l then 0 else p.2 / w + 1) fun p hp => ?_
  · omega
  · have hr := hP.rng p hp
    have hb := h p hp
    have hc := cst_pos hsz hr.2.2.1 hr.2.2.2
    unfold trn1
    split
    · exact Int.le_refl _
    · split
      · have := Int.ediv_nonneg (show 0 ≤ p.2 by omega) (show 0 ≤ w by omega)
        omega
      · have := Int.ediv_le_ediv hc (show v l - v p.1 ≤ cst sz w by omega)
        rw [unit_quot hsz hw.1 hw.2 hr.2.2.1 hr.2.2.2] at this
        omega
end

/-! ### What a slot does, by lookups -/
theorem lagO_get {L : List Tg} {f : Int} {t : Tg} (h : fget L f = some t) : lagO L f = t.s := by unfold lagO; rw [h]; rfl
theorem lagO_none {L : List Tg} {f : Int} (h : fget L f = none) : lagO L f = 0 := by unfold lagO; rw [h]; rfl
theorem charge_tags {i : Nat} {S : St} (h : TInv i S) (hi : i ≤ 300) (hne : S.L ≠ []) {len : Int} (h1 : 1 ≤ len) (h2 : len ≤ 4096) (r : Int) :
    ∃ by_ : Int, (∀ f ∈ S.L.map (·.f), lagO (chargeR r S (lst S.L).f len).2.L f = (if f = (lst S.L).f then lagO S.L f + cst len (lst S.L).w else lagO S.L f) - by_) ∧
      (chargeR r S (lst S.L).f len).2.tm = (lst S.L).s - by_ ∧ ptsOf (chargeR r S (lst S.L).f len).2.L = ptsOf S.L := by
  obtain ⟨hq, _⟩ := h.charge hi hne h1 h2 r
  obtain ⟨_, hT, hmx⟩ := h.ch hi hne h1 h2
  have hby := hT.by_ (setT_ne hne)
  have hfk : fget S.L (lst S.L).f = some (lst S.L) := fget_mem h.ok.ok (lst_mem hne)
  have hset : ∀ f ∈ S.L.map (·.f), ∃ t, fget S.L f = some t ∧ fget (setT ⟨(lst S.L).f, (lst S.L).w, (lst S.L).s + cst len (lst S.L).w⟩ S.L) f = some ⟨t.f, t.w, if f = (lst S.L).f then t.s + cst len (lst S.L).w else t.s⟩ := fun f hf => by
    obtain ⟨t, ht⟩ := fget_of_f hf
    refine ⟨t, ht, ?_⟩
    rw [fget_setT]
    by_cases hk : f = (lst S.L).f
    · rw [if_pos hk, ht, if_pos hk]
      rw [hk, hfk] at ht
      cases ht; rfl
    · rw [if_neg hk, ht, if_neg hk]
  have hpt : ptsOf (setT ⟨(lst S.L).f, (lst S.L).w, (lst S.L).s + cst len (lst S.L).w⟩ S.L) = ptsOf S.L := by
    unfold setT ptsOf
    rw [List.map_map]
    refine List.map_congr_left fun t ht => ?_
    show ((if t.f = (lst S.L).f then (⟨(lst S.L).f, (lst S.L).w, (lst S.L).s + cst len (lst S.L).w⟩ : Tg) else t).f, (if t.f = (lst S.L).f then (⟨(lst S.L).f, (lst S.L).w, (lst S.L).s + cst len (lst S.L).w⟩ : Tg) else t).w) = (t.f, t.w)
    split
    · rename_i e
      rw [h.ok.ok.inj ht (lst_mem hne) e]
    · rfl
  rw [hq]
  dsimp only
  unfold rebS
  rw [hby]
  split
  · refine ⟨0, fun f hf => ?_, ?_, hpt⟩
    · obtain ⟨t, e1, e2⟩ := hset f hf
      show lagO (setT _ S.L) f = _
      rw [lagO_get e2, lagO_get e1]
      dsimp only
      split <;> omega
    · show max S.tm (lst S.L).s = _; omega
  · refine ⟨max S.tm (lst S.L).s, fun f hf => ?_, ?_, ?_⟩
    · obtain ⟨t, e1, e2⟩ := hset f hf
      have e3 : fget (subS (chS S (lst S.L) ((lst S.L).s + cst len (lst S.L).w)) (chS S (lst S.L) ((lst S.L).s + cst len (lst S.L).w)).tm).L f = some ⟨t.f, t.w, (if f = (lst S.L).f then t.s + cst len (lst S.L).w else t.s) - max S.tm (lst S.L).s⟩ := by
        unfold subS
        dsimp only
        rw [fget_map _ (by intro t; rfl)]
        show (fget (setT _ S.L) f).map _ = _
        rw [e2]; rfl
      rw [lagO_get e3, lagO_get e1]
    · show max S.tm (lst S.L).s - max S.tm (lst S.L).s = _; omega
    · unfold subS ptsOf
      dsimp only
      rw [List.map_map]
      exact hpt
theorem lagO_move {D : List Tg} (_ : NOk D) {c s n : Int} (hz : (nMove D c s n).1 = 0) (f : Int) : lagO (nMove D c s n).2 f = lagO D f + (if f = c then n else 0) - (if f = s then n else 0) := by
  unfold nMove at hz ⊢
  cases hc : fget D c with
  | none => rw [hc] at hz; cases hz
  | some a =>
    cases hd : fget D s with
    | none => rw [hc, hd] at hz; cases hz
    | some d =>
      rw [hc, hd] at hz
      dsimp only at hz ⊢
      split at hz
      · cases hz
      · rename_i h1
        rw [if_neg h1]
        by_cases h2 : c = s
        · rw [if_pos h2]
          subst h2
          show lagO D f = _
          split <;> omega
        · rw [if_neg h2] at hz ⊢
          split at hz
          · cases hz
          · rename_i h3
            rw [if_neg h3]
            dsimp only
            obtain ⟨ma, rfl⟩ := fget_some hc
            obtain ⟨md, rfl⟩ := fget_some hd
            unfold lagO
            rw [fget_setT, fget_setT]
            dsimp only
            by_cases f1 : f = d.f
            · subst f1
              rw [if_pos rfl, if_neg (Ne.symm h2), hd, if_neg (Ne.symm h2), if_pos rfl]
              show d.s - n = d.s + 0 - n; omega
            · rw [if_neg f1, if_neg f1]
              by_cases f2 : f = a.f
              · subst f2
                rw [if_pos rfl, if_pos rfl, hc]
                show a.s + n = a.s + n - 0; omega
              · rw [if_neg f2, if_neg f2]; omega
theorem mget_filtK {α : Type} (p : Int → Bool) (f : Int) : ∀ n : List (Int × α), mget (n.filter fun x => p x.1) f = if p f = true then mget n f else none
  | [] => by simp [mget]
  | (k, v) :: n => by
    have ih := mget_filtK p f n
    by_cases hk : p k = true
    · rw [List.filter_cons_of_pos (by simpa using hk)]
      show (if f = k then some v else mget _ f) = if p f = true then (if f = k then some v else mget n f) else none
      rw [ih]
      by_cases hf : f = k
      · subst hf; rw [if_pos rfl, if_pos hk, if_pos rfl]
      · rw [if_neg hf, if_neg hf]
    · rw [List.filter_cons_of_neg (by simpa using hk), ih]
      show _ = if p f = true then (if f = k then some v else mget n f) else none
      by_cases hf : f = k
      · subst hf; rw [if_neg hk, if_neg hk]
      · rw [if_neg hf]
theorem cnt_next (D : List Tg) (n : List (Int × (Int × Int))) (f : Int) : cntO (resetC D n) f = if lagO D f < 0 then cntO n f else (0, 0) := by
  unfold cntO resetC
  rw [mget_filtK (fun k => decide (lagO D k < 0)) f n]
  by_cases h : lagO D f < 0
  · rw [if_pos (by simpa using h), if_pos h]
  · rw [if_neg (by simpa using h), if_neg h]; rfl
theorem cnt_bump (n : List (Int × (Int × Int))) (c : Chc) (len f : Int) : cntO (bumpC n c len) f = if f = c.ch then ((cntO n c.ch).1 + len, if c.ch = c.sv then (cntO n c.ch).2 + len else (cntO n c.ch).2) else cntO n f := by
  unfold bumpC
  generalize cntO n c.ch = z
  unfold cntO
  rw [mget_mput]
  split <;> rfl
theorem ex_lead {N : Nat} {D : List Tg} (h : LgOk N D) (h0 : sumS D = 0) {i : Int} (hi : 0 < lagO D i) : ∃ l, l ∈ D.map (·.f) ∧ lagO D l < 0 := by
  refine Classical.byContradiction fun hn => ?_
  have hall : ∀ t ∈ D, 0 ≤ t.s := fun t ht => by
    have e := lagO_get (fget_memN h.ok ht)
    by_cases hs : t.s < 0
    · exact absurd ⟨t.f, List.mem_map.2 ⟨t, ht, rfl⟩, by omega⟩ hn
    · omega
  obtain ⟨t, ht⟩ : ∃ t, fget D i = some t := by
    cases hf : fget D i with
    | none => rw [lagO_none hf] at hi; omega
    | some t => exact ⟨t, rfl⟩
  rw [lagO_get ht] at hi
  have hm : ab t.s ≤ absS D := absS_mem (fget_some ht).1
  have he : absS D = sumS D := by
    unfold absS sumS
    exact sumI_ab_nonneg _ fun q hq => by obtain ⟨u, hu, rfl⟩ := List.mem_map.1 hq; exact hall u hu
  unfold ab at hm
  omega
end Go.Proofs.YtkmlkpfabkhleaaGreat

/- Cifq, plain: joining, the state in which the laws begin, the example. -/
namespace Go.Proofs.YtkmlkpfabkhleaaGreat
open Go.RowKit
open SP

theorem PtOk.sortK {l : List (Int × Int)} (h : PtOk l) : Go.Proofs.YtkmlkpfabkhleaaGreat.sortK l = l.map (·.1) := by
  unfold Go.Proofs.YtkmlkpfabkhleaaGreat.sortK
  refine List.Perm.eq_of_pairwise (le := fun a b => a ≤ b) (fun a b _ _ h1 h2 => Int.le_antisymm h1 h2) ?_ ?_ (List.mergeSort_perm _ _)
  · have := List.pairwise_mergeSort (le := leI) (fun a b c h1 h2 => by simp [leI] at *; omega) (fun a b => by simp [leI]; omega) (l.map (·.1))
    exact this.imp (fun h => by simpa [leI] using h)
  · rw [List.pairwise_map]; exact h.asc.imp Int.le_of_lt
def leastP (el tg : List (Int × Int)) : Int := leastL tg (el.map (·.1)) (-1)
theorem PtOk.least {l : List (Int × Int)} (h : PtOk l) (tg : List (Int × Int)) : leastF l tg = leastP l tg := by unfold leastF leastP; rw [h.sortK]
def servByP (el tg : List (Int × Int)) (tm f len : Int) : Int := min (servTm tg tm f) (tget (servTg el tg f len) (leastP el (servTg el tg f len)))
def servOP (reb : Int) (o : Ord) (f len : Int) : Int × Ord :=
  if servE o.el o.tg f len ≠ 0 then (servE o.el o.tg f len, o) else
  if servByP o.el o.tg o.tm f len < reb then (0, ⟨o.el, servTg o.el o.tg f len, servTm o.tg o.tm f⟩) else
  (0, ⟨o.el, lower (servByP o.el o.tg o.tm f len) (servTg o.el o.tg f len), servTm o.tg o.tm f - servByP o.el o.tg o.tm f len⟩)
theorem servO_eq {o : Ord} (h : PtOk o.el) (reb f len : Int) : servO reb o f len = servOP reb o f len := by
  have e : ∀ tg tm, servBy o.el tg tm f len = servByP o.el tg tm f len := fun tg tm => by unfold servBy servByP; rw [h.least]
  unfold servO servOP
  rw [e]
def chooseP (num den : Int) (s : Cq) (H : List Head) (some_ : Bool) : Chc :=
  let k := (selT s.R.L).1
  let can := (headOf H k).good
  if (can && (!decide (lagO s.D k < 0) || keepsO num den (cntO s.n k))) = true then ⟨k, k, 1⟩
  else if 0 ≤ leastP s.C.el s.C.tg then ⟨k, leastP s.C.el s.C.tg, if can = true then 2 else 3⟩
  else if can = true then ⟨k, k, 1⟩
  else if some_ = true then ⟨k, if 0 ≤ leastP s.X.el s.X.tg then leastP s.X.el s.X.tg else 0, 4⟩
  else chIdle
def servP (reb : Int) (C X : Ord) (c : Chc) (len : Int) : Int × Ord × Ord :=
  if c.why = 2 ∨ c.why = 3 then ((servOP reb C c.sv len).1, (servOP reb C c.sv len).2, X)
  else if c.why = 4 then ((servOP reb X c.sv len).1, C, (servOP reb X c.sv len).2)
  else (0, C, X)
/-- A slot, reckoned. -/
def stepP (num den reb : Int) (s : Cq) (H : List Head) : Chc × Int × Cq :=
  if fitsH s.R.L H = false then (ch0, 1, s)
  else if H = [] then (ch0, 5, s)
  else
    let C := eligO s.C (lagH s.D H)
    let X := eligO s.X (allH s.D H)
    let c := chooseP num den { s with C := C, X := X } H (!(allH s.D H).isEmpty)
    if c = chIdle then (c, 0, { s with C := C, X := X })
    else
      let len := (headOf H c.sv).len
      let r := chargeR reb s.R c.ch len
      if r.1 ≠ 0 then (ch0, r.1, s)
      else
        let o := servP reb C X c len
        if o.1 ≠ 0 then (ch0, o.1, s)
        else
          let d := nMove s.D c.ch c.sv len
          if d.1 ≠ 0 then (ch0, d.1, s)
          else (c, 0, ⟨r.2, d.2, o.2.1, o.2.2, resetC d.2 (if countC num den s c = true then bumpC s.n c len else s.n)⟩)
section
variable {i m N : Nat} {s : Cq}
theorem CqInv.reckon (h : CqInv i m N s) (num den reb : Int) (H : List Head) : stepC num den reb s H = stepP num den reb s H := by
  have hl : ∀ p, PtOk (pickH s.D p H) := fun p => h.dpt.sub (pickH_sub _ _ _)
  have eC : PtOk (eligO s.C (lagH s.D H)).el := (h.c.elig (hl _)).pts
  have eX : PtOk (eligO s.X (allH s.D H)).el := (h.x.elig (hl _)).pts
  have e1 : chooseC num den { s with C := eligO s.C (lagH s.D H), X := eligO s.X (allH s.D H) } H (!(allH s.D H).isEmpty) = chooseP num den { s with C := eligO s.C (lagH s.D H), X := eligO s.X (allH s.D H) } H (!(allH s.D H).isEmpty) := by
    unfold chooseC chooseP
    dsimp only
    rw [eC.least, eX.least]
  have e2 : ∀ c len, servC reb (eligO s.C (lagH s.D H)) (eligO s.X (allH s.D H)) c len = servP reb (eligO s.C (lagH s.D H)) (eligO s.X (allH s.D H)) c len := fun c len => by
    unfold servC servP
    rw [servO_eq eC, servO_eq eX]
  unfold stepC stepP
  dsimp only
  rw [e1]
  simp only [e2]
/-- A slot with heads that fit gives no error. -/
theorem CqInv.next (h : CqInv i m N s) (hi : i ≤ 299) (hN : N ≤ 1000000) (num den reb : Int) {H : List Head} (hf : fitsH s.R.L H = true) (hne : H ≠ []) :
    (stepC num den reb s H).2.1 = 0 ∧ CqInv (i + 1) (m + 1) (N + 1) (stepC num den reb s H).2.2 := by
  obtain ⟨_, _, _, _, h5⟩ := h.step hi hN num den reb hf hne rfl rfl rfl
  rcases h5 with ⟨_, e, h6⟩ | ⟨j, why, len, _, _, _, _, _, _, _, e, _, _, _, h6, _⟩
  · rw [e]; exact ⟨rfl, h6.le (by omega) (by omega) (by omega)⟩
  · rw [e]; exact ⟨rfl, h6⟩
def joinC (s : Cq) (f w : Int) : Cq := { s with R := joinS s.R f w, D := (nJoin s.D f w).2 }
theorem CqInv.join (h : CqInv i m N s) {f w : Int} (he : joinE s.R f w = 0) : (nJoin s.D f w).1 = 0 ∧ CqInv i m N (joinC s f w) := by
  obtain ⟨_, hn, h1, h2, h3, h4⟩ := h.t.ok.join he
  have hD : fget s.D f = none := fget_none.2 fun t ht e => by
    have : f ∈ s.D.map (·.f) := List.mem_map.2 ⟨t, ht, e⟩
    rw [h.fl] at this
    obtain ⟨u, hu⟩ := fget_of_f this
    rw [hn] at hu; cases hu
  have hj : nJoin s.D f w = (0, insT ⟨f, w, 0⟩ s.D) := by unfold nJoin; rw [if_neg (by omega), hD]; rfl
  have hpt : ∀ (x : Tg) (L : List Tg), ptsOf (insT x L) = ptsOf (insT ⟨x.f, x.w, 0⟩ (L.map fun t => ⟨t.f, t.w, 0⟩)) := fun x L => by
    induction L with
    | nil => rfl
    | cons t L ih =>
      unfold insT
      rw [List.map_cons]
      show ptsOf (if t.f < x.f then t :: insT x L else x :: t :: L) = ptsOf (if t.f < x.f then ⟨t.f, t.w, 0⟩ :: insT ⟨x.f, x.w, 0⟩ (L.map fun t => ⟨t.f, t.w, 0⟩) else ⟨x.f, x.w, 0⟩ :: ⟨t.f, t.w, 0⟩ :: L.map fun t => ⟨t.f, t.w, 0⟩)
      split
      · show (t.f, t.w) :: ptsOf (insT x L) = (t.f, t.w) :: ptsOf _
        rw [ih]
      · show (x.f, x.w) :: (t.f, t.w) :: ptsOf L = (x.f, x.w) :: (t.f, t.w) :: ptsOf _
        congr 2
        unfold ptsOf
        rw [List.map_map]; rfl
  have hmp : ∀ {L M : List Tg}, ptsOf L = ptsOf M → (L.map fun t => (⟨t.f, t.w, 0⟩ : Tg)) = M.map fun t => ⟨t.f, t.w, 0⟩ := fun {L M} e => by
    have := congrArg (List.map fun p : Int × Int => (⟨p.1, p.2, 0⟩ : Tg)) e
    unfold ptsOf at this
    rwa [List.map_map, List.map_map] at this
  refine ⟨by rw [hj], h.t.joinS he, h.aw, ?_, ?_, ?_, h.c, h.x, h.nu, h.nv⟩
  · unfold joinC joinS
    dsimp only
    rw [hj]
    dsimp only
    rw [hpt, hpt ⟨f, w, max s.R.tm (s.R.old f)⟩, hmp h.pts]
  · exact nJoin_ok h.lg f w
  · exact (nJoin_sum s.D f w).trans h.sum
end
/-- Flows 0, 1, .. with these weights have joined. -/
def lw (ws : List Int) : List Tg := (List.range ws.length).map fun (i : Nat) => (⟨(i : Int), ws.getD i 0, 0⟩ : Tg)
def stW (ws : List Int) : Cq := ⟨⟨lw ws, fun _ => 0, 0, 0⟩, lw ws, ⟨[], [], 0⟩, ⟨[], [], 0⟩, []⟩
theorem lw_snoc (ws : List Int) (w : Int) : lw (ws ++ [w]) = lw ws ++ [⟨(ws.length : Int), w, 0⟩] := by
  unfold lw
  rw [List.length_append, List.length_singleton, List.range_succ, List.map_append]
  congr 1
  · refine List.map_congr_left fun i hi => ?_
    have := List.mem_range.1 hi
    rw [List.getD_eq_getElem?_getD, List.getElem?_append_left this, ← List.getD_eq_getElem?_getD]
  · simp
theorem insT_end {x : Tg} : ∀ {L : List Tg}, (∀ t ∈ L, t.f < x.f) → insT x L = L ++ [x]
  | [], _ => rfl
  | a :: L, h => by
    unfold insT
    rw [if_pos (h a (by simp)), insT_end fun t ht => h t (by simp [ht])]; rfl
theorem lw_lt {ws : List Int} : ∀ t ∈ lw ws, 0 ≤ t.f ∧ t.f < (ws.length : Int) := fun t ht => by
  unfold lw at ht
  obtain ⟨i, hi, rfl⟩ := List.mem_map.1 ht
  have := List.mem_range.1 hi
  dsimp only
  omega
theorem lw_len (ws : List Int) : (lw ws).length = ws.length := by unfold lw; simp
theorem lw_fresh {ws : List Int} {f : Int} (h : (ws.length : Int) ≤ f) : fget (lw ws) f = none := fget_none.2 fun t ht e => by have := lw_lt t ht; omega
theorem stW_join {ws : List Int} {w : Int} (hl : ws.length < 32) (h1 : 1 ≤ w) (h2 : w ≤ 16) : joinE (stW ws).R ws.length w = 0 ∧ joinC (stW ws) ws.length w = stW (ws ++ [w]) := by
  have hf : fget (lw ws) (ws.length : Int) = none := lw_fresh (Int.le_refl _)
  have he : joinE (stW ws).R ws.length w = 0 := by
    unfold joinE stW
    dsimp only
    rw [if_neg (by omega), hf]; rfl
  refine ⟨he, ?_⟩
  have hj : nJoin (lw ws) (ws.length : Int) w = (0, lw (ws ++ [w])) := by
    unfold nJoin
    rw [if_neg (by omega), hf, insT_end (fun t ht => (lw_lt t ht).2), lw_snoc]; rfl
  have ho : (fun g : Int => if g = (ws.length : Int) then (0 : Int) else 0) = fun _ => 0 := by funext g; split <;> rfl
  unfold joinC joinS stW
  dsimp only
  rw [hj, ho, insT_end (fun t ht => (lw_lt t ht).2), lw_snoc]
  rfl
theorem stW_inv : ∀ (n : Nat) (ws : List Int), ws.length = n → n ≤ 32 → (∀ w ∈ ws, 1 ≤ w ∧ w ≤ 16) → CqInv 0 0 0 (stW ws)
  | 0, ws, h, _, _ => by rw [List.eq_nil_of_length_eq_zero h]; exact CqInv.start
  | n + 1, ws, h, hn, hw => by
    obtain ⟨ws', w, rfl⟩ : ∃ ws' w, ws = ws' ++ [w] := ⟨ws.dropLast, ws.getLast (by intro e; rw [e] at h; cases h), (List.dropLast_concat_getLast _).symm⟩
    have hl : ws'.length = n := by simp at h; omega
    obtain ⟨h1, h2⟩ := stW_join (ws := ws') (w := w) (by omega) (hw w (by simp)).1 (hw w (by simp)).2
    rw [← h2]
    exact ((stW_inv n ws' hl (by omega) fun x hx => hw x (by simp [hx])).join h1).2

/-! ### The example -/
def awH : Nat → List Head
  | 0 => [⟨0, 100, false⟩, ⟨1, 100, true⟩]
  | _ => [⟨0, 100, true⟩, ⟨1, 100, true⟩]
def awS : Nat → Cq
  | 0 => stW [1, 1]
  | k + 1 => (stepP 1 2 1099511627776 (awS k) (awH k)).2.2
def awC : Nat → Chc
  | 0 => ⟨0, 1, 4⟩
  | 1 => ⟨1, 1, 1⟩
  | 2 => ⟨0, 0, 1⟩
  | _ => ⟨1, 0, 2⟩
theorem aw_inv : ∀ k : Nat, k ≤ 4 → CqInv k k k (awS k)
  | 0, _ => stW_inv 2 [1, 1] rfl (by omega) (by simp)
  | k + 1, h => by
    have ih := aw_inv k (by omega)
    have hf : fitsH (awS k).R.L (awH k) = true := by
      have : k = 0 ∨ k = 1 ∨ k = 2 ∨ k = 3 := by omega
      rcases this with rfl | rfl | rfl | rfl <;> decide
    have := (ih.next (by omega) (by omega) 1 2 1099511627776 hf (by cases k <;> simp [awH])).2
    rw [ih.reckon] at this
    exact this
theorem aw_step {k : Nat} (h : k < 4) : fitsH (awS k).R.L (awH k) = true ∧ stepC 1 2 1099511627776 (awS k) (awH k) = (awC k, 0, awS (k + 1)) := by
  rw [(aw_inv k (by omega)).reckon]
  have : k = 0 ∨ k = 1 ∨ k = 2 ∨ k = 3 := by omega
  rcases this with rfl | rfl | rfl | rfl
  · exact ⟨by decide, by rfl⟩
  · exact ⟨by decide, by rfl⟩
  · exact ⟨by decide, by rfl⟩
  · exact ⟨by decide, by rfl⟩
end Go.Proofs.YtkmlkpfabkhleaaGreat

/- Cifq, plain: the laws on lags that do not grow, and on slots without errors. -/
namespace Go.Proofs.YtkmlkpfabkhleaaGreat
open Go.RowKit
open SP
section
variable {i m N : Nat} {s : Cq} {num den reb : Int} {H : List Head}

theorem CqInv.next_pts (h : CqInv i m N s) (hi : i ≤ 299) (hN : N ≤ 1000000) (hf : fitsH s.R.L H = true) (hne : H ≠ []) : ptsOf (stepC num den reb s H).2.2.R.L = ptsOf s.R.L := by
  obtain ⟨f1, _⟩ := fits_facts hf
  have hL : s.R.L ≠ [] := fun e => by rw [e] at f1; simp at f1; exact hne f1
  obtain ⟨_, _, _, _, h5⟩ := h.step hi hN num den reb hf hne rfl rfl rfl
  rcases h5 with ⟨_, e, _⟩ | ⟨j, why, len, hc, _, _, _, l1, l2, _, e, _, _, _, _, _⟩
  · rw [e]
  · rw [e, hc]
    obtain ⟨_, _, _, h3⟩ := charge_tags h.t (by omega) hL l1 l2 reb
    exact h3
theorem ptsOf_flows {L M : List Tg} (h : ptsOf L = ptsOf M) : L.map (·.f) = M.map (·.f) := by rw [← ptsOf_f, ← ptsOf_f, h]
theorem fits_of {L : List Tg} {F : List Int} (h1 : L.map (·.f) = F) (h2 : H.map (·.f) = F) (h3 : ∀ h ∈ H, 1 ≤ h.len ∧ h.len ≤ 4096) : fitsH L H = true := by
  unfold fitsH
  rw [h1, h2, Bool.and_eq_true, decide_eq_true_eq, List.all_eq_true]
  exact ⟨rfl, fun x hx => by simpa using h3 x hx⟩
/-- The lag of a flow that can send and does not lead does not grow. -/
theorem CqInv.steady (h : CqInv i m N s) (hi : i ≤ 299) (hN : N ≤ 1000000) (hf : fitsH s.R.L H = true) (hne : H ≠ []) {f : Int} (hg : (headOf H f).good = true) (hl : 0 ≤ lagO s.D f) :
    lagO (stepC num den reb s H).2.2.D f ≤ lagO s.D f := by
  obtain ⟨f1, _⟩ := fits_facts hf
  have hL : s.R.L ≠ [] := fun e => by rw [e] at f1; simp at f1; exact hne f1
  obtain ⟨_, _, _, _, h5⟩ := h.step hi hN num den reb hf hne rfl rfl rfl
  rcases h5 with ⟨_, e, _⟩ | ⟨j, why, len, hc, _, _, _, l1, l2, _, e, _, _, q3, _, _⟩
  · rw [e]; exact Int.le_refl _
  · rw [e]
    show lagO (nMove s.D _ _ len).2 f ≤ _
    have hcc := hc
    rw [hc]
    dsimp only
    rw [lagO_move h.lg.ok q3 f]
    by_cases hk : f = (lst s.R.L).f
    · have hkj : j = (lst s.R.L).f := by
        unfold chooseC at hcc
        dsimp only at hcc
        rw [(selT_mem hL).1] at hcc
        dsimp only at hcc
        rw [← hk, hg] at hcc
        have hd : decide (lagO s.D f < 0) = false := by simpa using hl
        rw [hd] at hcc
        rw [if_pos (by simp)] at hcc
        have := congrArg Chc.sv hcc
        exact hk ▸ this.symm
      rw [if_pos hk, if_pos (by rw [hkj]; exact hk)]
      omega
    · rw [if_neg hk]
      split <;> omega
/-- Without errors and without lags. -/
theorem CqInv.good (h : CqInv i m N s) (hi : i ≤ 299) (hN : N ≤ 1000000) (hf : fitsH s.R.L H = true) (hne : H ≠ []) (hg : ∀ x ∈ H, x.good = true) (hl : ∀ f, lagO s.D f = 0) :
    (stepC num den reb s H).1 = ⟨(lst s.R.L).f, (lst s.R.L).f, 1⟩ ∧ ∀ f, lagO (stepC num den reb s H).2.2.D f = 0 := by
  obtain ⟨f1, _⟩ := fits_facts hf
  have hL : s.R.L ≠ [] := fun e => by rw [e] at f1; simp at f1; exact hne f1
  have hm := (selT_mem hL).2
  rw [← f1] at hm
  have hgk := hg _ (headOf_mem hm).1
  have hch : ∀ C X so, chooseC num den { s with C := C, X := X } H so = ⟨(lst s.R.L).f, (lst s.R.L).f, 1⟩ := fun C X so => by
    unfold chooseC
    dsimp only
    rw [(selT_mem hL).1]
    dsimp only
    rw [hgk, hl, if_pos (by simp)]
  obtain ⟨_, _, _, _, h5⟩ := h.step hi hN num den reb hf hne rfl rfl rfl
  rcases h5 with ⟨hc, _, _⟩ | ⟨j, why, len, hc, _, _, _, l1, l2, _, e, _, _, q3, _, _⟩
  · rw [hch] at hc
    cases congrArg Chc.why hc
  · rw [hch] at hc e
    have hj : j = (lst s.R.L).f := (congrArg Chc.sv hc).symm
    refine ⟨by rw [e], fun f => ?_⟩
    rw [e]
    show lagO (nMove s.D (lst s.R.L).f (lst s.R.L).f len).2 f = 0
    rw [hj] at q3
    rw [lagO_move h.lg.ok q3 f, hl]
    omega
end
end Go.Proofs.YtkmlkpfabkhleaaGreat

/- Cifq, plain: a lagging flow catches up within the closed form. -/
namespace Go.Proofs.YtkmlkpfabkhleaaGreat
open Go.RowKit
open SP

/-- A slot that serves, by lookups. -/
structure SlotF (num den : Int) (s s' : Cq) (C : Ord) (k j why len wk : Int) : Prop where
  rl : ∃ by_ : Int, (∀ f ∈ s.R.L.map (·.f), lagO s'.R.L f = (if f = k then lagO s.R.L f + cst len wk else lagO s.R.L f) - by_) ∧ s'.R.tm = lagO s.R.L k - by_
  pt : ptsOf s'.R.L = ptsOf s.R.L
  d : ∀ f, lagO s'.D f = lagO s.D f + (if f = k then len else 0) - (if f = j then len else 0)
  n : ∀ f, cntO s'.n f = if lagO s'.D f < 0 then (if countC num den s ⟨k, j, why⟩ = true ∧ f = k then ((cntO s.n k).1 + len, if k = j then (cntO s.n k).2 + len else (cntO s.n k).2) else cntO s.n f) else (0, 0)
  co : (why = 2 ∨ why = 3) → ∃ wt by_ : Int, mget C.el j = some wt ∧ 0 ≤ by_ ∧ by_ ≤ tget C.tg j ∧ C.tm ≤ tget C.tg j ∧ (∀ p ∈ C.el, tget C.tg j ≤ tget C.tg p.1) ∧ s'.C.tm = tget C.tg j - by_ ∧
    ∀ g, tget s'.C.tg g = max ((if g = j then tget C.tg j + cst len wt else tget C.tg g) - by_) 0
  cn : ¬ (why = 2 ∨ why = 3) → s'.C = C
  own : why = 1 → j = k
  kw : (k, wk) ∈ ptsOf s.R.L
  kmin : ∀ f ∈ s.R.L.map (·.f), lagO s.R.L k ≤ lagO s.R.L f
section
variable {i m N : Nat} {s : Cq} {num den reb : Int} {H : List Head}

theorem CqInv.slot (h : CqInv i m N s) (hi : i ≤ 299) (hN : N ≤ 1000000) (num den reb : Int) (hf : fitsH s.R.L H = true) (hne : H ≠ []) {c : Chc}
    (hc : chooseC num den { s with C := eligO s.C (lagH s.D H), X := eligO s.X (allH s.D H) } H (!(allH s.D H).isEmpty) = c) (hid : c ≠ chIdle) :
    ∃ len wk, c.ch = (lst s.R.L).f ∧ (∃ x ∈ H, x.len = len) ∧ 1 ≤ len ∧ len ≤ 4096 ∧ (stepC num den reb s H).1 = c ∧ SlotF num den s (stepC num den reb s H).2.2 (eligO s.C (lagH s.D H)) c.ch c.sv c.why len wk := by
  obtain ⟨f1, _⟩ := fits_facts hf
  have hL : s.R.L ≠ [] := fun e => by rw [e] at f1; simp at f1; exact hne f1
  obtain ⟨oC, _, _, _, h5⟩ := h.step hi hN num den reb hf hne rfl rfl hc
  rcases h5 with ⟨e, _⟩ | ⟨j, why, len, hcc, hj0, hlen, hjH, l1, l2, hway, e, q1, q2, q3, _, _⟩
  · exact absurd e hid
  · subst hcc
    obtain ⟨by_, r1, r2, r3⟩ := charge_tags h.t (by omega) hL l1 l2 reb
    have hls : lagO s.R.L (lst s.R.L).f = (lst s.R.L).s := lagO_get (fget_mem h.t.ok.ok (lst_mem hL))
    refine ⟨len, (lst s.R.L).w, rfl, ?_, l1, l2, by rw [e], ?_⟩
    · have hm : j ∈ H.map (·.f) := by obtain ⟨x, hx, rfl⟩ := hjH; exact List.mem_map.2 ⟨x, hx, rfl⟩
      exact ⟨_, (headOf_mem hm).1, hlen⟩
    · rw [e]
      refine ⟨⟨by_, r1, by rw [hls]; exact r2⟩, r3, fun f => lagO_move h.lg.ok q3 f, fun f => ?_, fun hw => ?_, fun hw => ?_, fun hw => ?_, ?_, fun f hf => ?_⟩
      · show cntO (resetC (nMove s.D (lst s.R.L).f j len).2 _) f = _
        rw [cnt_next]
        show _ = if lagO (nMove s.D (lst s.R.L).f j len).2 f < 0 then _ else _
        split
        · by_cases hcb : countC num den s ⟨(lst s.R.L).f, j, why⟩ = true
          · rw [if_pos hcb, cnt_bump]
            dsimp only
            by_cases hfk : f = (lst s.R.L).f
            · rw [if_pos hfk]; exact (if_pos (And.intro hcb hfk)).symm
            · rw [if_neg hfk]; exact (if_neg fun h => hfk h.2).symm
          · rw [if_neg hcb]; exact (if_neg fun h => hcb h.1).symm
        · rfl
      · have hjl : j = leastF (eligO s.C (lagH s.D H)).el (eligO s.C (lagH s.D H)).tg := by
          rcases hway with ⟨hw1, _⟩ | ⟨_, hj⟩ | ⟨hw1, _⟩
          · dsimp only at hw; omega
          · exact hj
          · dsimp only at hw; omega
        obtain ⟨wt, g1, g2, g3, g4, g5, g6, g7, g8, by2, b1, b2, b3, b4, b5⟩ := oC.serv (by omega) reb hjl hj0 l1 l2
        refine ⟨wt, by2, g1, b1, b2, g8, g7, ?_, ?_⟩
        · show (servC reb _ _ ⟨_, j, why⟩ len).2.1.tm = _
          unfold servC
          rw [if_pos hw]; exact b4
        · intro g
          show tget (servC reb _ _ ⟨_, j, why⟩ len).2.1.tg g = _
          unfold servC
          rw [if_pos hw]; exact b5 g
      · show (servC reb _ _ ⟨_, j, why⟩ len).2.1 = _
        unfold servC
        rw [if_neg hw]
        split <;> rfl
      · dsimp only at hw ⊢
        rcases hway with ⟨_, hj⟩ | ⟨hw1, _⟩ | ⟨hw1, _⟩
        · exact hj
        · omega
        · omega
      · unfold ptsOf
        exact List.mem_map.2 ⟨_, lst_mem hL, rfl⟩
      · obtain ⟨t, ht⟩ := fget_of_f hf
        rw [hls, lagO_get ht]
        exact lst_min (fget_some ht).1
theorem choose_why2 {num den : Int} {s : Cq} {so : Bool} {k j : Int} (h : chooseC num den s H so = ⟨k, j, 2⟩) : lagO s.D k < 0 ∧ keepsO num den (cntO s.n k) = false := by
  unfold chooseC at h
  dsimp only at h
  split at h
  · cases congrArg Chc.why h
  · rename_i hn
    split at h
    · have hk := congrArg Chc.ch h
      have hw := congrArg Chc.why h
      dsimp only at hk hw
      rw [hk] at hn hw
      split at hw
      · rename_i hg
        rw [hg] at hn
        cases h1 : decide (lagO s.D k < 0) with
        | false => rw [h1] at hn; simp at hn
        | true =>
          cases h2 : keepsO num den (cntO s.n k) with
          | false => exact ⟨by simpa using h1, rfl⟩
          | true => rw [h2] at hn; simp at hn
      · omega
    · split at h
      · cases congrArg Chc.why h
      · split at h
        · cases congrArg Chc.why h
        · cases congrArg Chc.why h
/-- What a slot does where a lagging flow can send. -/
theorem choose_lagging {num den : Int} (h : CqInv i m N s) (hf : fitsH s.R.L H = true) {f : Int} (hfl : f ∈ s.D.map (·.f)) (hl : 0 < lagO s.D f) (hg : (headOf H f).good = true) {c : Chc} {X : Ord}
    (hc : chooseC num den { s with C := eligO s.C (lagH s.D H), X := X } H (!(allH s.D H).isEmpty) = c) :
    (∃ w, (f, w) ∈ (eligO s.C (lagH s.D H)).el) ∧ (c.why = 1 ∧ c.sv = c.ch ∧ c.ch = (selT s.R.L).1 ∧ (lagO s.D c.ch < 0 → keepsO num den (cntO s.n c.ch) = true) ∨
      (c.why = 2 ∨ c.why = 3) ∧ c.ch = (selT s.R.L).1 ∧ c.ch ≠ f ∧ c.sv = leastF (eligO s.C (lagH s.D H)).el (eligO s.C (lagH s.D H)).tg) ∧ c ≠ chIdle := by
  obtain ⟨f1, _⟩ := fits_facts hf
  have hl' : ∀ p, PtOk (pickH s.D p H) := fun p => h.dpt.sub (pickH_sub _ _ _)
  have oC := h.c.elig (hl' fun x => x.good && decide (0 < lagO s.D x.f))
  have eC := h.c.elig_el (hl' fun x => x.good && decide (0 < lagO s.D x.f))
  have hin : ∃ w, (f, w) ∈ lagH s.D H := by
    obtain ⟨q, hq, rfl⟩ := List.mem_map.1 hfl
    obtain ⟨p, hp⟩ := List.getElem?_of_mem hq
    have hmf : H.map (·.f) = s.D.map (·.f) := by rw [f1, h.fl]
    have hHp : (H.map (·.f))[p]? = some q.f := by rw [hmf, List.getElem?_map, hp]; rfl
    rw [List.getElem?_map] at hHp
    cases hx : H[p]? with
    | none => rw [hx] at hHp; cases hHp
    | some x =>
      rw [hx] at hHp
      have hxf : x.f = q.f := Option.some.inj hHp
      refine ⟨q.w, ?_⟩
      unfold lagH pickH
      refine List.mem_map.2 ⟨(x, (q.f, q.w)), List.mem_filter.2 ⟨?_, ?_⟩, rfl⟩
      · have : (H.zip (ptsOf s.D))[p]? = some (x, (q.f, q.w)) := by
          rw [List.getElem?_zip_eq_some]
          exact ⟨hx, by unfold ptsOf; rw [List.getElem?_map, hp]; rfl⟩
        exact List.mem_of_getElem? this
      · have hxg : headOf H q.f = x := by
          have hasc : H.Pairwise fun a b => a.f < b.f := by
            have := h.lg.ok.asc'
            rw [← hmf, List.pairwise_map] at this
            exact this
          obtain ⟨m1, m2⟩ := headOf_mem (H := H) (f := q.f) (by rw [hmf]; exact hfl)
          have hxm := List.mem_of_getElem? hx
          generalize headOf H q.f = y at *
          have huq : ∀ {l : List Head}, l.Pairwise (fun a b => a.f < b.f) → ∀ a ∈ l, ∀ b ∈ l, a.f = b.f → a = b := by
            intro l
            induction l with
            | nil => intro _ a ha; cases ha
            | cons z l ih =>
              intro hp a ha b hb e
              rw [List.pairwise_cons] at hp
              rcases List.mem_cons.1 ha with ha | ha <;> rcases List.mem_cons.1 hb with hb | hb
              · rw [ha, hb]
              · have := hp.1 b hb; rw [ha] at e; omega
              · have := hp.1 a ha; rw [hb] at e; omega
              · exact ih hp.2 a ha b hb e
          exact huq hasc y m1 x hxm (m2.trans hxf.symm)
        rw [hxg] at hg
        dsimp only
        rw [hg, hxf]
        simpa using hl
  obtain ⟨w, hw⟩ := hin
  change (f, w) ∈ pickH s.D (fun x => x.good && decide (0 < lagO s.D x.f)) H at hw
  rw [← eC] at hw
  have hnn : 0 ≤ leastF (eligO s.C (lagH s.D H)).el (eligO s.C (lagH s.D H)).tg := by
    by_cases hlt : leastF (eligO s.C (lagH s.D H)).el (eligO s.C (lagH s.D H)).tg < 0
    · have := oC.least_nil.1 hlt
      rw [this] at hw; cases hw
    · omega
  refine ⟨⟨w, hw⟩, ?_⟩
  unfold chooseC at hc
  dsimp only at hc
  split at hc
  · rename_i hcond
    subst hc
    refine ⟨.inl ⟨rfl, rfl, rfl, fun hk => ?_⟩, by intro e; cases congrArg Chc.why e⟩
    dsimp only at hk ⊢
    rw [show decide (lagO s.D (selT s.R.L).1 < 0) = true by simpa using hk] at hcond
    simp only [Bool.not_true, Bool.false_or, Bool.and_eq_true] at hcond
    exact hcond.2
  · rename_i hcond
    subst hc
    refine ⟨.inr ⟨?_, rfl, ?_, rfl⟩, ?_⟩
    · dsimp only
      split
      · exact .inl rfl
      · exact .inr rfl
    · dsimp only
      intro e
      rw [e, hg, show decide (lagO s.D f < 0) = false by simp; omega] at hcond
      simp at hcond
    · intro e
      have := congrArg Chc.why e
      dsimp only [chIdle] at this
      split at this <;> omega
end
end Go.Proofs.YtkmlkpfabkhleaaGreat

/- Cifq, plain: the potential of a lagging flow. -/
namespace Go.Proofs.YtkmlkpfabkhleaaGreat
open Go.RowKit
open SP

def eff (o : Ord) (f : Int) : Int := max (tget o.tg f) o.tm
def pOf (num den : Int) (c : Int × Int) : Int := c.2 * den - num * c.1
/-- What is kept in slots with packets of one size. -/
structure DInv (sz : Int) (P : List (Int × Int)) (num den : Int) (s : Cq) : Prop where
  pts : ptsOf s.R.L = P
  ts : ∀ p ∈ P, lagO s.R.L p.1 ≤ s.R.tm + cst sz p.2
  te : ∀ p ∈ P, tget s.C.tg p.1 ≤ s.C.tm + cst sz p.2
  kp : ∀ f, -(num * sz) < pOf num den (cntO s.n f)
  dv : ∀ f, ∃ q : Int, lagO s.D f = q * sz
section
variable {sz : Int} {P : List (Int × Int)} {num den : Int} {s s' : Cq} {C : Ord} {k j why wk : Int} {i m N : Nat}

theorem keeps_iff (c : Int × Int) : keepsO num den c = true ↔ pOf num den c ≤ 0 := by
  unfold keepsO pOf
  rw [decide_eq_true_eq]
  omega
/-- The tags of eligible orders. -/
theorem elig_eff (o : Ord) (l : List (Int × Int)) (f : Int) : eff (eligO o l) f = eff o f ∧ (eligO o l).tm = o.tm ∧ tget (eligO o l).tg f ≤ eff o f := by
  unfold eff eligO
  dsimp only
  rw [eligTg_get]
  refine ⟨?_, rfl, ?_⟩
  · split <;> omega
  · split <;> omega
theorem count_keep {c : Int × Int} (_ : 0 < num) (_ : num < den) (_ : 1 ≤ sz) (_ : -(num * sz) < pOf num den c) (_ : pOf num den c ≤ 0) : pOf num den (c.1 + sz, c.2 + sz) = pOf num den c + sz * (den - num) := by
  unfold pOf
  dsimp only
  rw [Int.add_mul, Int.mul_add, Int.mul_sub, Int.mul_comm num sz]
  omega
theorem count_give {c : Int × Int} : pOf num den (c.1 + sz, c.2) = pOf num den c - num * sz := by
  unfold pOf
  dsimp only
  rw [Int.mul_add]; omega

theorem DInv.slot {len : Int} (h : DInv sz P num den s) (hI : CqInv i m N s) (hlen : len = sz) (hs : 1 ≤ sz) (hn : 0 < num) (hd : num < den) {l : List (Int × Int)} (hC : C = eligO s.C l) (hl : l.Sublist P) (hPk : PtOk P)
    (hw2 : why = 2 → keepsO num den (cntO s.n k) = false) (S : SlotF num den s s' C k j why len wk) : DInv sz P num den s' := by
  subst hlen
  have hP : P.map (·.1) = s.R.L.map (·.f) := by rw [← ptsOf_f, h.pts]
  have hpos : 0 < num * len := Int.mul_pos hn (by omega)
  have hdpos : 0 < len * (den - num) := Int.mul_pos (by omega) (by omega)
  have hcp : ∀ p ∈ P, 0 < cst len p.2 := fun p hp => by have := hPk.rng p hp; exact cst_pos hs this.2.2.1 this.2.2.2
  have huniq : ∀ {a b c : Int}, (a, b) ∈ P → (a, c) ∈ P → b = c := fun {a b c} h1 h2 => by
    have e1 := mget_mem hPk.uniq h1
    have e2 := mget_mem hPk.uniq h2
    rw [e1] at e2; exact Option.some.inj e2
  obtain ⟨by_, r1, r2⟩ := S.rl
  refine ⟨S.pt.trans h.pts, fun p hp => ?_, fun p hp => ?_, fun f => ?_, fun f => ?_⟩
  · have hpf : p.1 ∈ s.R.L.map (·.f) := by rw [← hP]; exact List.mem_map.2 ⟨p, hp, rfl⟩
    rw [r1 p.1 hpf, r2]
    have h1 := h.ts p hp
    have h3 := hcp p hp
    split
    · rename_i e
      have : p.2 = wk := huniq (a := p.1) hp (by rw [e, ← h.pts]; exact S.kw)
      rw [this, e]; omega
    · have hk := S.kw
      rw [h.pts] at hk
      have hkf : k ∈ s.R.L.map (·.f) := by rw [← hP]; exact List.mem_map.2 ⟨_, hk, rfl⟩
      have h4 := hI.t.act
      obtain ⟨t, ht⟩ := fget_of_f hkf
      have := (hI.t.act t (fget_some ht).1).1
      rw [lagO_get ht]; omega
  · have hel := elig_eff s.C l p.1
    have h3 := hcp p hp
    have h1 := h.te p hp
    have hm : tget C.tg p.1 ≤ C.tm + cst len p.2 := by
      rw [hC, hel.2.1]
      have := hel.2.2
      unfold eff at this
      omega
    by_cases hw : why = 2 ∨ why = 3
    · obtain ⟨wt, b2, g1, g2, g3, g4, g5, g6, g7⟩ := S.co hw
      rw [g7, g6]
      have hjl : (j, wt) ∈ P := by
        have := mem_of_mget g1
        rw [hC] at this
        unfold eligO at this
        dsimp only at this
        rw [eligEl_self (hPk.sub hl).uniq] at this
        exact hl.subset this
      split
      · rename_i e
        have : p.2 = wt := huniq (a := p.1) hp (by rw [e]; exact hjl)
        rw [this]
        rw [this] at h3
        omega
      · omega
    · rw [S.cn hw]; exact hm
  · rw [S.n f]
    split
    · split
      · rename_i hc
        obtain ⟨hcb, _⟩ := hc
        have hk := h.kp k
        unfold countC at hcb
        dsimp only at hcb
        rw [Bool.and_eq_true, Bool.or_eq_true, Bool.and_eq_true, decide_eq_true_eq, decide_eq_true_eq, decide_eq_true_eq] at hcb
        rcases hcb.2 with hw | ⟨hw1, hkk⟩
        · have hp0 : ¬ pOf num den (cntO s.n k) ≤ 0 := fun hle => by
            have := (keeps_iff (num := num) (den := den) (cntO s.n k)).2 hle
            rw [hw2 hw] at this; cases this
          split
          · have e : pOf num den ((cntO s.n k).1 + len, (cntO s.n k).2 + len) = pOf num den (cntO s.n k) + len * (den - num) := by
              unfold pOf; dsimp only
              rw [Int.add_mul, Int.mul_add, Int.mul_sub, Int.mul_comm num len]; omega
            rw [e]; omega
          · rw [count_give]; omega
        · have hle := (keeps_iff (num := num) (den := den) (cntO s.n k)).1 hkk
          split
          · rw [count_keep hn hd hs hk hle]; omega
          · rename_i hkj
            exact absurd (S.own hw1).symm hkj
      · exact h.kp f
    · unfold pOf; dsimp only; omega
  · obtain ⟨q, hq⟩ := h.dv f
    rw [S.d f, hq]
    refine ⟨q + (if f = k then 1 else 0) - (if f = j then 1 else 0), ?_⟩
    rw [Int.sub_mul, Int.add_mul]
    split <;> split <;> omega

/-! ### The potential -/
def potQ (sz num den : Int) (c : Int × Int) : Int := if 0 < pOf num den c then 1 else (-pOf num den c) / (sz * (den - num)) + 2
def keepK (num den : Int) : Int := num / (den - num) + 1
theorem potQ_pos {c : Int × Int} (hd : 0 < sz * (den - num)) : 1 ≤ potQ sz num den c := by
  unfold potQ
  split
  · exact Int.le_refl _
  · have := Int.ediv_nonneg (show 0 ≤ -pOf num den c by omega) (show 0 ≤ sz * (den - num) by omega)
    omega
theorem potQ_le {c : Int × Int} (hn : 0 < num) (hd : num < den) (hs : 1 ≤ sz) (h : -(num * sz) < pOf num den c) : potQ sz num den c ≤ keepK num den + 1 := by
  have hdp : 0 < sz * (den - num) := Int.mul_pos (by omega) (by omega)
  have h0 := Int.ediv_nonneg (show 0 ≤ num by omega) (show 0 ≤ den - num by omega)
  unfold potQ keepK
  split
  · omega
  · have h1 := Int.ediv_le_ediv hdp (show -pOf num den c ≤ sz * num by rw [Int.mul_comm sz num]; omega)
    rw [Int.mul_ediv_mul_of_pos _ _ (show 0 < sz by omega)] at h1
    omega
theorem potQ_keep {c c' : Int × Int} (hdp : 0 < sz * (den - num)) (hk : pOf num den c ≤ 0) (he : pOf num den c' = pOf num den c + sz * (den - num)) : potQ sz num den c' + 1 ≤ potQ sz num den c := by
  have hc : potQ sz num den c = (-pOf num den c) / (sz * (den - num)) + 2 := by unfold potQ; rw [if_neg (by omega)]
  rw [hc]
  unfold potQ
  rw [he]
  have h0 := Int.ediv_nonneg (show 0 ≤ -pOf num den c by omega) (show 0 ≤ sz * (den - num) by omega)
  split
  · omega
  · have e : -pOf num den c = -(pOf num den c + sz * (den - num)) + 1 * (sz * (den - num)) := by omega
    rw [e, Int.add_mul_ediv_right _ _ (by omega)]
    omega
/-- At most m slots are left. -/
def Pot (sz : Int) (P : List (Int × Int)) (num den : Int) (f wf M : Int) (s : Cq) (m : Int) : Prop :=
  ∃ l wl p : Int, (l, wl) ∈ P ∧ lagO s.D l < 0 ∧ lagO s.D f = p * sz ∧ 1 ≤ p ∧
    (p - 1) * (turnT P f wf * ((keepK num den + 1) * M)) + (trn sz P (eff s.C) f - 1) * ((keepK num den + 1) * M) + (potQ sz num den (cntO s.n l) - 1) * M + trn sz P (lagO s.R.L) l ≤ m
theorem Pot.pos {f wf M m : Int} (hPk : PtOk P) (hs : 1 ≤ sz) (hn : 0 < num) (hd : num < den) (hM : 0 ≤ M) (hwf : 1 ≤ wf) (h : Pot sz P num den f wf M s m) : 1 ≤ m := by
  obtain ⟨l, wl, p, _, _, _, hp, hm⟩ := h
  have hcp : ∀ p ∈ P, 0 < cst sz p.2 := fun p hp => by have := hPk.rng p hp; exact cst_pos hs this.2.2.1 this.2.2.2
  have hdp : 0 < sz * (den - num) := Int.mul_pos (by omega) (by omega)
  have h1 := trn_pos (v := eff s.C) (l := f) hcp
  have h2 := trn_pos (v := lagO s.R.L) (l := l) hcp
  have h3 := potQ_pos (c := cntO s.n l) hdp
  have hk : 0 ≤ keepK num den := by
    have := Int.ediv_nonneg (show 0 ≤ num by omega) (show 0 ≤ den - num by omega)
    unfold keepK; omega
  have hT : 0 ≤ turnT P f wf := by
    unfold turnT
    have := sumI_nn (l := P.map fun p => if p.1 = f then (0 : Int) else p.2 / wf + 1) fun x hx => by
      obtain ⟨q, hq, rfl⟩ := List.mem_map.1 hx
      split
      · omega
      · have := hPk.rng q hq
        have := Int.ediv_nonneg (show 0 ≤ q.2 by omega) (show 0 ≤ wf by omega)
        omega
    omega
  have a1 : 0 ≤ (keepK num den + 1) * M := Int.mul_nonneg (by omega) hM
  have a2 : 0 ≤ (p - 1) * (turnT P f wf * ((keepK num den + 1) * M)) := Int.mul_nonneg (by omega) (Int.mul_nonneg hT a1)
  have a3 : 0 ≤ (trn sz P (eff s.C) f - 1) * ((keepK num den + 1) * M) := Int.mul_nonneg (by omega) a1
  have a4 : 0 ≤ (potQ sz num den (cntO s.n l) - 1) * M := Int.mul_nonneg (by omega) hM
  omega
/-- A leading flow's share of the potential. -/
theorem lead_pot {M : Int} (h : DInv sz P num den s) (hI : CqInv i m N s) (hPk : PtOk P) (hs : 1 ≤ sz) (hn : 0 < num) (hd : num < den) (hM : ∀ p ∈ P, turnT P p.1 p.2 ≤ M) {l wl : Int} (hl : (l, wl) ∈ P) :
    (potQ sz num den (cntO s.n l) - 1) * M + trn sz P (lagO s.R.L) l ≤ (keepK num den + 1) * M ∧ trn sz P (lagO s.R.L) l ≤ M := by
  have hP : P.map (·.1) = s.R.L.map (·.f) := by rw [← ptsOf_f, h.pts]
  have hr := hPk.rng _ hl
  dsimp only at hr
  have hb : trn sz P (lagO s.R.L) l ≤ M := by
    refine Int.le_trans (trn_bound (base := s.R.tm) hs hPk ⟨hr.2.2.1, hr.2.2.2⟩ (h.ts _ hl) fun p hp => ?_) (hM _ hl)
    have hpf : p.1 ∈ s.R.L.map (·.f) := by rw [← hP]; exact List.mem_map.2 ⟨p, hp, rfl⟩
    obtain ⟨t, ht⟩ := fget_of_f hpf
    rw [lagO_get ht]
    exact (hI.t.act t (fget_some ht).1).1
  have hcp : ∀ p ∈ P, 0 < cst sz p.2 := fun p hp => by have := hPk.rng p hp; exact cst_pos hs this.2.2.1 this.2.2.2
  have h2 := trn_pos (v := lagO s.R.L) (l := l) hcp
  have hq := potQ_le hn hd hs (h.kp l)
  have := Int.mul_le_mul_of_nonneg_right (show potQ sz num den (cntO s.n l) - 1 ≤ keepK num den by omega) (show 0 ≤ M by omega)
  rw [Int.add_mul]
  exact ⟨by omega, hb⟩
theorem comp_turn {f wf : Int} (h : DInv sz P num den s) (hPk : PtOk P) (hs : 1 ≤ sz) (hf : (f, wf) ∈ P) : trn sz P (eff s.C) f ≤ turnT P f wf := by
  have hr := hPk.rng _ hf
  dsimp only at hr
  refine trn_bound (base := s.C.tm) hs hPk ⟨hr.2.2.1, hr.2.2.2⟩ ?_ fun p hp => ?_
  · have := h.te _ hf
    have := cst_pos hs hr.2.2.1 hr.2.2.2
    unfold eff; dsimp only at *; omega
  · unfold eff; omega
theorem pot_start {M : Int} {f wf p : Int} (h : DInv sz P num den s) (hI : CqInv i m N s) (hPk : PtOk P) (hs : 1 ≤ sz) (hn : 0 < num) (hd : num < den) (hM : ∀ p ∈ P, turnT P p.1 p.2 ≤ M) (hf : (f, wf) ∈ P)
    (hp : lagO s.D f = p * sz) (hp1 : 1 ≤ p) : Pot sz P num den f wf M s (p * (turnT P f wf * ((keepK num den + 1) * M))) := by
  have hpos : 0 < lagO s.D f := by rw [hp]; exact Int.mul_pos (by omega) (by omega)
  obtain ⟨l, hl, hneg⟩ := ex_lead hI.lg hI.sum hpos
  rw [hI.fl, ← ptsOf_f, h.pts] at hl
  obtain ⟨⟨l', wl⟩, hl2, rfl⟩ := List.mem_map.1 hl
  obtain ⟨h1, h2⟩ := lead_pot h hI hPk hs hn hd hM hl2
  have hcp : ∀ p ∈ P, 0 < cst sz p.2 := fun p hp => by have := hPk.rng p hp; exact cst_pos hs this.2.2.1 this.2.2.2
  have hB := trn_pos (v := lagO s.R.L) (l := l') hcp
  have hK : 0 ≤ (keepK num den + 1) * M := by
    have := Int.ediv_nonneg (show 0 ≤ num by omega) (show 0 ≤ den - num by omega)
    exact Int.mul_nonneg (by unfold keepK; omega) (by omega)
  refine ⟨l', wl, p, hl2, hneg, hp, hp1, ?_⟩
  have h3 := Int.mul_le_mul_of_nonneg_right (show trn sz P (eff s.C) f - 1 ≤ turnT P f wf - 1 by have := comp_turn h hPk hs hf; omega) hK
  have e1 : p * (turnT P f wf * ((keepK num den + 1) * M)) = (p - 1) * (turnT P f wf * ((keepK num den + 1) * M)) + turnT P f wf * ((keepK num den + 1) * M) := by rw [Int.sub_mul]; omega
  rw [Int.sub_mul (turnT P f wf), Int.one_mul] at h3
  rw [e1]
  omega
end
end Go.Proofs.YtkmlkpfabkhleaaGreat
