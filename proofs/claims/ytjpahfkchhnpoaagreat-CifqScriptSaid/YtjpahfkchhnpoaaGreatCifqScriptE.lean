/- Texts that the law rests on, put together by a program. -/
import Derived.Test.YtjpahfkchhnpoaaGreatCifqScriptD
import Derived.Test.YtjpahfkchhnpoaaGreatCifqScriptC
import Derived.Test.YtjpahfkchhnpoaaGreatCifqScriptA
import Derived.Test.YtjpahfkchhnpoaaGreatCifqScriptB
import Derived.Deep.RegionLaw
import Derived.Deep.DeepCutAuto
import Derived.Deep.CutBlock
/- Cifq, plain: what the slots keep. -/
namespace Go.Proofs.YtjpahfkchhnpoaaGreat
open Go.RowKit
open SP

structure OInv (i : Nat) (o : Ord) : Prop where
  pts : PtOk o.el
  uniq : Uniq o.tg
  val : ∀ f, 0 ≤ tget o.tg f ∧ tget o.tg f ≤ i * 2952069120
  tm : 0 ≤ o.tm ∧ o.tm ≤ i * 2952069120
  low : ∀ p ∈ o.el, o.tm ≤ tget o.tg p.1
  up : ∀ f, tget o.tg f ≤ o.tm + 2952069120

theorem PtOk.sub {l m : List (Int × Int)} (h : PtOk l) (hm : m.Sublist l) : PtOk m :=
  ⟨h.asc.sublist hm, fun p hp => h.rng p (hm.subset hp), Nat.le_trans hm.length_le h.len⟩
theorem PtOk.nil : PtOk [] := ⟨.nil, by simp, by simp⟩
theorem PtOk.uniq {l : List (Int × Int)} (h : PtOk l) : Uniq l := by
  unfold Uniq
  show (l.map (·.1)).Pairwise (· ≠ ·)
  rw [List.pairwise_map]
  exact h.asc.imp fun h => by omega
theorem PtOk.key {l : List (Int × Int)} (h : PtOk l) : KeyOk l := ⟨h.uniq, fun x hx => by have := h.rng x hx; omega⟩
theorem PtOk.good {l : List (Int × Int)} (h : PtOk l) : eligBad (-1) l = false :=
  eligBad_ok l (-1) (by rw [List.pairwise_map]; exact h.asc) fun p hp => by have := h.rng p hp; omega
theorem OInv.start : OInv 0 ⟨[], [], 0⟩ := ⟨PtOk.nil, by simp [Uniq], fun f => by simp [tget, mget], by simp, by simp, fun f => by simp [tget, mget]⟩
theorem OInv.le {i j : Nat} {o : Ord} (h : OInv i o) (hj : i ≤ j) : OInv j o := by
  have hij : (i : Int) ≤ j := by omega
  exact ⟨h.pts, h.uniq, fun f => by have := h.val f; omega, by have := h.tm; omega, h.low, h.up⟩
/-- Tags that are near a small time. -/
theorem OInv.down {i : Nat} {o : Ord} (h : OInv i o) (ht : o.tm ≤ 2952069120) : OInv 2 o := by
  exact ⟨h.pts, h.uniq, fun f => by have := h.val f; have := h.up f; omega, by have := h.tm; omega, h.low, h.up⟩
theorem OInv.vals {i : Nat} {o : Ord} (h : OInv i o) : ∀ x ∈ o.tg, 0 ≤ x.2 ∧ x.2 ≤ i * 2952069120 := fun x hx => by
  rw [← tget_val h.uniq hx]; exact h.val x.1
theorem OInv.ok {i : Nat} {o : Ord} (h : OInv i o) (hi : i ≤ 370) : OrdOk o := by
  have hij : (i : Int) ≤ 370 := by omega
  exact ⟨h.pts.key, by have := h.pts.len; omega, h.uniq, fun x hx => by have := h.vals x hx; omega, by have := h.tm; omega⟩
theorem OInv.elig {i : Nat} {o : Ord} (h : OInv i o) {l : List (Int × Int)} (hl : PtOk l) : OInv i (eligO o l) := by
  unfold eligO
  have ht := h.tm
  refine ⟨by rw [eligEl_self hl.uniq]; exact hl, eligTg_uniq o.el o.tm l o.tg h.uniq, fun f => ?_, h.tm, fun p hp => ?_, fun f => ?_⟩
  · dsimp only
    rw [eligTg_get]
    have := h.val f
    split <;> omega
  · dsimp only at hp ⊢
    rw [eligEl_self hl.uniq] at hp
    rw [eligTg_get]
    split
    · omega
    · rename_i hn
      cases he : mget o.el p.1 with
      | none => exact absurd ⟨List.mem_map.2 ⟨p, hp, rfl⟩, he⟩ hn
      | some v => exact h.low (p.1, v) (mem_of_mget he)
  · dsimp only
    rw [eligTg_get]
    have := h.up f
    split <;> omega
theorem OInv.elig_el {i : Nat} {o : Ord} (_ : OInv i o) {l : List (Int × Int)} (hl : PtOk l) : (eligO o l).el = l := by
  unfold eligO; exact eligEl_self hl.uniq
theorem OInv.least {i : Nat} {o : Ord} (h : OInv i o) (hl : 0 ≤ leastF o.el o.tg) : leastF o.el o.tg ∈ o.el.map (·.1) := by
  rcases leastF_facts o.el o.tg (fun p hp => (h.pts.rng p hp).1) with ⟨_, h2⟩ | ⟨h1, _⟩
  · omega
  · exact h1
theorem OInv.least_nil {i : Nat} {o : Ord} (h : OInv i o) : leastF o.el o.tg < 0 ↔ o.el = [] := by
  rcases leastF_facts o.el o.tg (fun p hp => (h.pts.rng p hp).1) with ⟨h1, h2⟩ | ⟨h1, _⟩
  · exact ⟨fun _ => h1, fun _ => by omega⟩
  · obtain ⟨p, hp, he⟩ := List.mem_map.1 h1
    have := h.pts.rng p hp
    exact ⟨fun _ => by omega, fun e => by rw [e] at hp; cases hp⟩
/-- The least flow is served. -/
theorem OInv.serv {i : Nat} {o : Ord} (h : OInv i o) (hi : i ≤ 370) (reb : Int) {f len : Int} (hf : f = leastF o.el o.tg) (hf0 : 0 ≤ f) (h1 : 1 ≤ len) (h2 : len ≤ 4096) :
    ∃ wt, mget o.el f = some wt ∧ 1 ≤ wt ∧ wt ≤ 16 ∧ (servO reb o f len).1 = 0 ∧ OInv (i + 1) (servO reb o f len).2 ∧ (servO reb o f len).2.el = o.el ∧
      (∀ p ∈ o.el, tget o.tg f ≤ tget o.tg p.1) ∧ o.tm ≤ tget o.tg f ∧
      ∃ by_ : Int, 0 ≤ by_ ∧ by_ ≤ tget o.tg f ∧ (by_ = 0 ∧ tget o.tg f < reb ∨ by_ = tget o.tg f) ∧ (servO reb o f len).2.tm = tget o.tg f - by_ ∧
        ∀ g, tget (servO reb o f len).2.tg g = max ((if g = f then tget o.tg f + cst len wt else tget o.tg g) - by_) 0 := by
  have hij : (i : Int) ≤ 370 := by omega
  have hp0 : ∀ p ∈ o.el, 0 ≤ p.1 := fun p hp => (h.pts.rng p hp).1
  rcases leastF_facts o.el o.tg hp0 with ⟨_, he⟩ | ⟨hmem, hmin⟩
  · omega
  rw [← hf] at hmem hmin
  obtain ⟨wt, hwt⟩ := mget_isSome_of hmem
  have hin := mem_of_mget hwt
  have hw := h.pts.rng _ hin
  have hlow := h.low _ hin
  dsimp only at hw hlow
  have hg := h.val f
  have ht := h.tm
  have hel : tget o.el f = wt := by unfold tget; rw [hwt]; rfl
  obtain ⟨c1, c2⟩ := cst_range hw.2.2.1 hw.2.2.2 h1 h2
  have hfin : servFin o.el o.tg f len = (tget o.tg f + cst len wt, 0) := by
    unfold servFin finF
    rw [hel, if_neg (by unfold badLW; omega), if_neg (by omega)]
  have hE : servE o.el o.tg f len = 0 := by unfold servE; rw [hwt, hfin]; rfl
  have hTm : servTm o.tg o.tm f = tget o.tg f := by unfold servTm; omega
  have hTg : ∀ g, tget (servTg o.el o.tg f len) g = if g = f then tget o.tg f + cst len wt else tget o.tg g := fun g => by unfold servTg; rw [tget_mput, hfin]
  have hlow' : ∀ p ∈ o.el, tget o.tg f ≤ tget (servTg o.el o.tg f len) p.1 := fun p hp' => by
    rw [hTg]
    split
    · omega
    · exact hmin p hp'
  have hBy : servBy o.el o.tg o.tm f len = tget o.tg f := by
    unfold servBy
    rw [hTm]
    rcases leastF_facts o.el (servTg o.el o.tg f len) hp0 with ⟨he, _⟩ | ⟨hm2, _⟩
    · rw [he] at hin; cases hin
    · obtain ⟨q, hq, hqe⟩ := List.mem_map.1 hm2
      have := hlow' q hq
      rw [hqe] at this
      omega
  have hu1 : Uniq (servTg o.el o.tg f len) := h.uniq.mput _ _
  refine ⟨wt, hwt, hw.2.2.1, hw.2.2.2, ?_⟩
  unfold servO
  rw [if_neg (by rw [hE]; simp), hBy, hTm]
  by_cases hb : tget o.tg f < reb
  · rw [if_pos hb]
    refine ⟨rfl, ⟨h.pts, hu1, fun g => ?_, by show 0 ≤ tget o.tg f ∧ tget o.tg f ≤ ((i + 1 : Nat) : Int) * 2952069120; omega, hlow', fun g => ?_⟩, rfl, hmin, hlow, 0, by omega, hg.1, .inl ⟨rfl, hb⟩, by show tget o.tg f = _; omega, fun g => ?_⟩
    · have := h.val g
      dsimp only; rw [hTg]; push_cast
      split <;> omega
    · have := h.up g
      dsimp only; rw [hTg]
      split <;> omega
    · have := h.val g
      dsimp only; rw [hTg]
      split <;> omega
  · rw [if_neg hb]
    refine ⟨rfl, ⟨h.pts, hu1.lower _, fun g => ?_, by show 0 ≤ tget o.tg f - tget o.tg f ∧ tget o.tg f - tget o.tg f ≤ ((i + 1 : Nat) : Int) * 2952069120; omega, fun p hp => ?_, fun g => ?_⟩, rfl, hmin, hlow, tget o.tg f, hg.1, by omega, .inr rfl, rfl, fun g => ?_⟩
    · have := h.val g
      dsimp only; rw [tget_lower _ hg.1, hTg]; push_cast
      split <;> omega
    · have := hlow' p hp
      dsimp only; rw [tget_lower _ hg.1]; omega
    · have := h.up g
      dsimp only; rw [tget_lower _ hg.1, hTg]
      split <;> omega
    · dsimp only; rw [tget_lower _ hg.1, hTg]
theorem tget_mdel {m : List (Int × Int)} (hu : Uniq m) (f g : Int) : tget (mdel m f) g = if g = f then 0 else tget m g := by
  unfold tget
  rw [mdel_filtK f hu]
  induction m with
  | nil => simp [mget]
  | cons x m ih =>
    unfold Uniq at hu
    rw [List.map_cons, List.nodup_cons] at hu
    have ih := ih hu.2
    obtain ⟨k, v⟩ := x
    by_cases hk : k = f
    · subst hk
      rw [List.filter_cons_of_neg (by simp), ih]
      by_cases hg : g = k
      · rw [if_pos hg, if_pos hg]
      · rw [if_neg hg, if_neg hg]
        show _ = (if g = k then some v else mget m g).getD 0
        rw [if_neg hg]
    · rw [List.filter_cons_of_pos (by simpa using hk)]
      show (if g = k then some v else mget _ g).getD 0 = if g = f then 0 else (if g = k then some v else mget m g).getD 0
      by_cases hg : g = k
      · rw [if_pos hg, if_pos hg, if_neg (by omega)]
      · rw [if_neg hg, if_neg hg, ih]
theorem OInv.forget {i : Nat} {o : Ord} (h : OInv i o) (f : Int) : OInv i ⟨mdel o.el f, mdel o.tg f, o.tm⟩ := by
  have ht := h.tm
  have hm : mdel o.el f = o.el.filter fun x => !(x.1 == f) := mdel_filtK f h.pts.uniq
  refine ⟨?_, h.uniq.mdel f, fun g => ?_, h.tm, fun p hp => ?_, fun g => ?_⟩
  · dsimp only; rw [hm]; exact h.pts.sub List.filter_sublist
  · have := h.val g
    dsimp only; rw [tget_mdel h.uniq]
    split <;> omega
  · dsimp only at hp ⊢
    rw [hm] at hp
    obtain ⟨h1, h2⟩ := List.mem_filter.1 hp
    rw [tget_mdel h.uniq, if_neg (by simpa using h2)]
    exact h.low p h1
  · have := h.up g
    dsimp only; rw [tget_mdel h.uniq]
    split <;> omega

/-! ### Picking heads -/
theorem snd_zip_sub {α β : Type} : ∀ (l : List α) (m : List β), ((l.zip m).map (·.2)).Sublist m
  | [], m => by simp
  | _ :: _, [] => by simp
  | _ :: l, b :: m => by simpa using snd_zip_sub l m
theorem pickH_sub (D : List Tg) (p : Head → Bool) (H : List Head) : (pickH D p H).Sublist (ptsOf D) := by
  unfold pickH
  exact (List.filter_sublist.map _).trans (snd_zip_sub _ _)
theorem ptsOf_f (D : List Tg) : (ptsOf D).map (·.1) = D.map (·.f) := by unfold ptsOf; rw [List.map_map]; rfl

/-- What the scheduler keeps: tags up to i packets, m slots, ledger bound N. -/
structure CqInv (i m N : Nat) (s : Cq) : Prop where
  t : TInv i s.R
  aw : 0 ≤ s.R.aw ∧ s.R.aw + s.R.tm ≤ m * 2952069120
  pts : ptsOf s.D = ptsOf s.R.L
  lg : LgOk N s.D
  sum : sumS s.D = 0
  c : OInv i s.C
  x : OInv i s.X
  nu : Uniq s.n
  nv : ∀ y ∈ s.n, 0 ≤ y.2.1 ∧ y.2.1 ≤ m * 4096 ∧ 0 ≤ y.2.2 ∧ y.2.2 ≤ m * 4096

section
variable {i m N : Nat} {s : Cq}
theorem CqInv.fl (h : CqInv i m N s) : s.D.map (·.f) = s.R.L.map (·.f) := by
  rw [← ptsOf_f, ← ptsOf_f, h.pts]
theorem CqInv.len (h : CqInv i m N s) : s.D.length = s.R.L.length := by
  have := congrArg List.length h.fl
  simpa using this
theorem CqInv.dpt (h : CqInv i m N s) : PtOk (ptsOf s.D) := ptsOf_ok h.lg.ok
theorem CqInv.cnt (h : CqInv i m N s) (f : Int) : 0 ≤ (cntO s.n f).1 ∧ (cntO s.n f).1 ≤ m * 4096 ∧ 0 ≤ (cntO s.n f).2 ∧ (cntO s.n f).2 ≤ m * 4096 := by
  unfold cntO
  cases hm : mget s.n f with
  | none => show 0 ≤ (0 : Int) ∧ (0 : Int) ≤ _ ∧ 0 ≤ (0 : Int) ∧ (0 : Int) ≤ _; omega
  | some v => exact h.nv _ (mem_of_mget hm)
theorem fget_of_f {L : List Tg} {k : Int} (h : k ∈ L.map (·.f)) : ∃ t, fget L k = some t := by
  cases hf : fget L k with
  | some t => exact ⟨t, rfl⟩
  | none =>
    obtain ⟨t, ht, he⟩ := List.mem_map.1 h
    exact absurd he (fget_none.1 hf t ht)
def cq0 : Cq := ⟨⟨[], fun _ => 0, 0, 0⟩, [], ⟨[], [], 0⟩, ⟨[], [], 0⟩, []⟩
theorem CqInv.start : CqInv 0 0 0 cq0 :=
  ⟨TInv.start, by simp [cq0], rfl, LgOk.start, rfl, OInv.start, OInv.start, by simp [Uniq, cq0], by simp [cq0]⟩
/-- More slots, greater bounds. -/
theorem CqInv.le {j k M : Nat} (h : CqInv i m N s) (hj : i ≤ j) (hk : m ≤ k) (hM : N ≤ M) : CqInv j k M s := by
  have hij : (i : Int) ≤ j := by omega
  have hmk : (m : Int) ≤ k := by omega
  have h2 := h.aw
  refine ⟨?_, by omega, h.pts, h.lg.le hM, h.sum, h.c.le hj, h.x.le hj, h.nu, fun y hy => by have := h.nv y hy; omega⟩
  have h3 := h.t.tm
  exact ⟨h.t.ok, by omega, h.t.act, h.t.old⟩
/-- The times are small. -/
structure CqLow (s : Cq) : Prop where
  r : s.R.tm ≤ 2952069120
  c : s.C.tm ≤ 2952069120
  x : s.X.tm ≤ 2952069120
theorem CqInv.down (h : CqInv i m N s) (hl : CqLow s) : CqInv 2 m N s :=
  ⟨⟨h.t.ok, by have := hl.r; push_cast; omega, h.t.act, h.t.old⟩, h.aw, h.pts, h.lg, h.sum, h.c.down hl.c, h.x.down hl.x, h.nu, h.nv⟩
end

/-! ### A slot -/
/-- The heads fit: what that says. -/
theorem fits_facts {L : List Tg} {H : List Head} (h : fitsH L H = true) : H.map (·.f) = L.map (·.f) ∧ ∀ x ∈ H, 1 ≤ x.len ∧ x.len ≤ 4096 := by
  unfold fitsH at h
  rw [Bool.and_eq_true, decide_eq_true_eq, List.all_eq_true] at h
  exact ⟨h.1, fun x hx => by simpa using h.2 x hx⟩
theorem headOf_mem {H : List Head} {f : Int} (h : f ∈ H.map (·.f)) : headOf H f ∈ H ∧ (headOf H f).f = f := by
  unfold headOf
  cases hf : H.find? (fun h => h.f == f) with
  | none =>
    obtain ⟨x, hx, he⟩ := List.mem_map.1 h
    have := List.find?_eq_none.1 hf x hx
    simp [he] at this
  | some x => exact ⟨List.mem_of_find?_eq_some hf, by simpa using List.find?_some hf⟩
theorem selT_mem {L : List Tg} (h : L ≠ []) : selT L = ((lst L).f, 0) ∧ (lst L).f ∈ L.map (·.f) := by
  unfold selT
  rw [if_neg h]
  exact ⟨rfl, List.mem_map.2 ⟨_, lst_mem h, rfl⟩⟩
/-- Every choice but the idle one charges the selected flow and serves an active one; the ways by the orders serve one that is eligible there. -/
theorem choose_facts {i m N : Nat} {s : Cq} (h : CqInv i m N s) (hne : s.R.L ≠ []) (num den : Int) {H : List Head} (_ : H.map (·.f) = s.R.L.map (·.f)) {C X : Ord} (hC : OInv i C) (hX : OInv i X)
    (hCe : C.el = lagH s.D H) (hXe : X.el = allH s.D H) :
    chooseC num den { s with C := C, X := X } H (!(allH s.D H).isEmpty) = chIdle ∨
    ∃ j why, chooseC num den { s with C := C, X := X } H (!(allH s.D H).isEmpty) = ⟨(lst s.R.L).f, j, why⟩ ∧ j ∈ s.D.map (·.f) ∧ 0 ≤ j ∧
      (why = 1 ∧ j = (lst s.R.L).f ∨ (why = 2 ∨ why = 3) ∧ j = leastF C.el C.tg ∨ why = 4 ∧ j = leastF X.el X.tg) ∧ 0 ≤ (lst s.R.L).f := by
  obtain ⟨hs, hk⟩ := selT_mem hne
  have hk0 : 0 ≤ (lst s.R.L).f := (h.t.ok.ok.rng _ (lst_mem hne)).1
  have hkD : (lst s.R.L).f ∈ s.D.map (·.f) := by rw [h.fl]; exact hk
  have hsub : ∀ (p : Head → Bool) (j : Int), j ∈ (pickH s.D p H).map (·.1) → j ∈ s.D.map (·.f) ∧ 0 ≤ j := fun p j hj => by
    obtain ⟨y, hy, rfl⟩ := List.mem_map.1 hj
    have hy' := (pickH_sub s.D p H).subset hy
    have := h.dpt.rng y hy'
    exact ⟨by rw [← ptsOf_f]; exact List.mem_map.2 ⟨y, hy', rfl⟩, this.1⟩
  unfold chooseC
  dsimp only
  rw [hs]
  dsimp only
  split
  · exact .inr ⟨_, _, rfl, hkD, hk0, .inl ⟨rfl, rfl⟩, hk0⟩
  · split
    · rename_i hl
      have hm := hC.least hl
      have hm' := hm
      rw [hCe] at hm'
      have := hsub _ _ hm'
      rw [← hCe] at this
      refine .inr ⟨_, _, rfl, this.1, hl, .inr (.inl ⟨?_, rfl⟩), hk0⟩
      split
      · exact .inl rfl
      · exact .inr rfl
    · split
      · exact .inr ⟨_, _, rfl, hkD, hk0, .inl ⟨rfl, rfl⟩, hk0⟩
      · split
        · rename_i hso
          have hl : 0 ≤ leastF X.el X.tg := by
            have : ¬ (leastF X.el X.tg < 0) := fun hlt => by
              have := hX.least_nil.1 hlt
              rw [hXe] at this
              rw [this] at hso
              simp at hso
            omega
          rw [if_pos hl]
          have hm := hX.least hl
          have hm' := hm
          rw [hXe] at hm'
          have := hsub _ _ hm'
          rw [← hXe] at this
          exact .inr ⟨_, _, rfl, this.1, hl, .inr (.inr ⟨rfl, rfl⟩), hk0⟩
        · exact .inl rfl
theorem nMove_fw {L : List Tg} (h : NOk L) (c s n : Int) : ptsOf (nMove L c s n).2 = ptsOf L := by
  have hs : ∀ {M : List Tg} {x a : Tg}, NOk M → fget M x.f = some a → x.w = a.w → ptsOf (setT x M) = ptsOf M := fun {M x a} hM hf hw => by
    unfold ptsOf setT
    rw [List.map_map]
    refine List.map_congr_left fun t ht => ?_
    show ((if t.f = x.f then x else t).f, (if t.f = x.f then x else t).w) = (t.f, t.w)
    split
    · rename_i e
      have := fget_memN hM ht
      rw [e, hf] at this
      cases this
      rw [hw, e]
    · rfl
  unfold nMove
  cases hc : fget L c with
  | none => rfl
  | some a =>
    cases hd : fget L s with
    | none => rfl
    | some d =>
      dsimp only
      obtain ⟨ma, rfl⟩ := fget_some hc
      obtain ⟨md, rfl⟩ := fget_some hd
      split
      · rfl
      · split
        · rfl
        · split
          · rfl
          · rename_i hne _
            dsimp only
            have hr := h.rng a ma
            have h1 : NOk (setT ⟨a.f, a.w, a.s + n⟩ L) := h.set (x := ⟨a.f, a.w, a.s + n⟩) ⟨hr.1, hr.2.1, hr.2.2.1, hr.2.2.2⟩
            have h2 : fget (setT ⟨a.f, a.w, a.s + n⟩ L) d.f = some d := by
              rw [← fget_memN h1 (mem_setT_of md (x := ⟨a.f, a.w, a.s + n⟩) (Ne.symm hne))]
            rw [hs (x := ⟨d.f, d.w, d.s - n⟩) h1 h2 rfl, hs (x := ⟨a.f, a.w, a.s + n⟩) h hc rfl]
theorem nMove_zero {N : Nat} {L : List Tg} (h : LgOk N L) (hN : N ≤ 1000000) {c s n : Int} (hc : c ∈ L.map (·.f)) (hs : s ∈ L.map (·.f)) (h1 : 1 ≤ n) (h2 : n ≤ 4096) : (nMove L c s n).1 = 0 := by
  obtain ⟨a, ha⟩ := fget_of_f hc
  obtain ⟨d, hd⟩ := fget_of_f hs
  have b1 := h.lag (fget_some ha).1
  have b2 := h.lag (fget_some hd).1
  have hn : (N : Int) ≤ 1000000 := by omega
  rw [nMove_some ha hd, if_neg (by omega)]
  split
  · rfl
  · rw [if_neg (by omega)]

def nextC (num den reb : Int) (s : Cq) (C X : Ord) (c : Chc) (len : Int) : Cq :=
  ⟨(chargeR reb s.R c.ch len).2, (nMove s.D c.ch c.sv len).2, (servC reb C X c len).2.1, (servC reb C X c len).2.2, resetC (nMove s.D c.ch c.sv len).2 (if countC num den s c = true then bumpC s.n c len else s.n)⟩
theorem Uniq.filt {α : Type} {m : List (Int × α)} (h : Uniq m) (p : Int × α → Bool) : Uniq (m.filter p) := by
  unfold Uniq at *
  exact h.sublist (List.filter_sublist.map _)

/-- What a slot with heads that fit does. -/
theorem CqInv.step {i m N : Nat} {s : Cq} (h : CqInv i m N s) (hi : i ≤ 299) (hN : N ≤ 1000000) (num den reb : Int) {H : List Head} (hf : fitsH s.R.L H = true) (hne : H ≠ []) {C X : Ord} {c : Chc}
    (hC : eligO s.C (lagH s.D H) = C) (hX : eligO s.X (allH s.D H) = X) (hc : chooseC num den { s with C := C, X := X } H (!(allH s.D H).isEmpty) = c) :
    OInv i C ∧ OInv i X ∧ C.el = lagH s.D H ∧ X.el = allH s.D H ∧
    (c = chIdle ∧ stepC num den reb s H = (chIdle, 0, { s with C := C, X := X }) ∧ CqInv i m N { s with C := C, X := X } ∨
      ∃ j why len, c = ⟨(lst s.R.L).f, j, why⟩ ∧ 0 ≤ j ∧ (headOf H j).len = len ∧ (∃ x ∈ H, x.f = j) ∧ 1 ≤ len ∧ len ≤ 4096 ∧ (why = 1 ∧ j = (lst s.R.L).f ∨ (why = 2 ∨ why = 3) ∧ j = leastF C.el C.tg ∨ why = 4 ∧ j = leastF X.el X.tg) ∧ stepC num den reb s H = (c, 0, nextC num den reb s C X c len) ∧
        (chargeR reb s.R (lst s.R.L).f len).1 = 0 ∧ (servC reb C X c len).1 = 0 ∧ (nMove s.D (lst s.R.L).f j len).1 = 0 ∧ CqInv (i + 1) (m + 1) (N + 1) (nextC num den reb s C X c len) ∧ (reb ≤ 2952069120 → CqLow s → CqLow (nextC num den reb s C X c len))) := by
  obtain ⟨f1, f2⟩ := fits_facts hf
  have hL : s.R.L ≠ [] := fun e => by rw [e] at f1; simp at f1; exact hne f1
  have hl : ∀ p, PtOk (pickH s.D p H) := fun p => h.dpt.sub (pickH_sub _ _ _)
  have oC : OInv i C := hC ▸ h.c.elig (hl _)
  have oX : OInv i X := hX ▸ h.x.elig (hl _)
  have eC : C.el = lagH s.D H := hC ▸ h.c.elig_el (hl _)
  have eX : X.el = allH s.D H := hX ▸ h.x.elig_el (hl _)
  refine ⟨oC, oX, eC, eX, ?_⟩
  have hch := choose_facts h hL num den f1 oC oX eC eX
  rw [hc] at hch
  have hst : stepC num den reb s H = if c = chIdle then (c, 0, { s with C := C, X := X }) else
      if (chargeR reb s.R c.ch (headOf H c.sv).len).1 ≠ 0 then (ch0, (chargeR reb s.R c.ch (headOf H c.sv).len).1, s) else
      if (servC reb C X c (headOf H c.sv).len).1 ≠ 0 then (ch0, (servC reb C X c (headOf H c.sv).len).1, s) else
      if (nMove s.D c.ch c.sv (headOf H c.sv).len).1 ≠ 0 then (ch0, (nMove s.D c.ch c.sv (headOf H c.sv).len).1, s) else (c, 0, nextC num den reb s C X c (headOf H c.sv).len) := by
    unfold stepC
    rw [if_neg (by rw [hf]; simp), if_neg hne]
    dsimp only
    rw [hC, hX, hc]
    rfl
  rcases hch with he | ⟨j, why, he, hj, hj0, hw, hk0⟩
  · left
    rw [he, if_pos rfl] at hst
    exact ⟨he, hst, ⟨h.t, h.aw, h.pts, h.lg, h.sum, oC, oX, h.nu, h.nv⟩⟩
  · right
    have hjH : j ∈ H.map (·.f) := by rw [f1, ← h.fl]; exact hj
    obtain ⟨m1, m2⟩ := headOf_mem hjH
    have hlen := f2 _ m1
    refine ⟨j, why, (headOf H j).len, he, hj0, rfl, ⟨_, m1, m2⟩, hlen.1, hlen.2, hw, ?_⟩
    obtain ⟨len, hle⟩ : ∃ len, (headOf H j).len = len := ⟨_, rfl⟩
    rw [hle] at hlen ⊢
    have hkD : (lst s.R.L).f ∈ s.D.map (·.f) := by rw [h.fl]; exact List.mem_map.2 ⟨_, lst_mem hL, rfl⟩
    obtain ⟨q1, q2⟩ := h.t.charge (by omega) hL hlen.1 hlen.2 reb
    have q0 : (chargeR reb s.R (lst s.R.L).f len).1 = 0 := by rw [q1]
    have qn := nMove_zero h.lg hN hkD hj hlen.1 hlen.2
    have qs : (servC reb C X c len).1 = 0 ∧ OInv (i + 1) (servC reb C X c len).2.1 ∧ OInv (i + 1) (servC reb C X c len).2.2 ∧
        (reb ≤ 2952069120 → C.tm ≤ 2952069120 → X.tm ≤ 2952069120 → (servC reb C X c len).2.1.tm ≤ 2952069120 ∧ (servC reb C X c len).2.2.tm ≤ 2952069120) := by
      rw [he]
      unfold servC
      dsimp only
      rcases hw with ⟨hw, _⟩ | ⟨hw, hm⟩ | ⟨hw, hm⟩
      · rw [if_neg (by omega), if_neg (by omega)]
        exact ⟨rfl, oC.le (Nat.le_succ i), oX.le (Nat.le_succ i), fun _ h1 h2 => ⟨h1, h2⟩⟩
      · rw [if_pos hw]
        obtain ⟨wt, _, _, _, e0, e1, _, _, _, by_, b0, b1, b2, e2, _⟩ := oC.serv (by omega) reb hm hj0 hlen.1 hlen.2
        exact ⟨e0, e1, oX.le (Nat.le_succ i), fun h1 h2 h3 => ⟨by rw [e2]; omega, h3⟩⟩
      · rw [if_neg (by omega), if_pos hw]
        obtain ⟨wt, _, _, _, e0, e1, _, _, _, by_, b0, b1, b2, e2, _⟩ := oX.serv (by omega) reb hm hj0 hlen.1 hlen.2
        exact ⟨e0, oC.le (Nat.le_succ i), e1, fun h1 h2 h3 => ⟨h2, by rw [e2]; omega⟩⟩
    have hcne : c ≠ chIdle := by
      rw [he]
      intro e
      have := congrArg Chc.sv e
      change j = -1 at this
      omega
    have hsv : c.sv = j := by rw [he]
    have hcc : c.ch = (lst s.R.L).f := by rw [he]
    refine ⟨?_, q0, qs.1, qn, ?_, ?_⟩
    · have hlen' : (headOf H c.sv).len = len := by rw [hsv]; exact hle
      rw [hst, if_neg hcne, hlen', hcc, hsv, if_neg (by rw [q0]; simp), if_neg (by rw [qs.1]; simp), if_neg (by rw [qn]; simp)]
    · unfold nextC
      rw [hcc, hsv]
      have hnv : ∀ y ∈ s.n, 0 ≤ y.2.1 ∧ y.2.1 ≤ ((m + 1 : Nat) : Int) * 4096 ∧ 0 ≤ y.2.2 ∧ y.2.2 ≤ ((m + 1 : Nat) : Int) * 4096 := fun y hy => by
        have := h.nv y hy; push_cast; omega
      refine ⟨by rw [q1]; exact q2, ?_, ?_, (nMove_ok h.lg _ _ _).1, (nMove_ok h.lg _ _ _).2.trans h.sum, qs.2.1, qs.2.2.1, ?_, ?_⟩
      · rw [q1]
        obtain ⟨_, hT, hmx⟩ := h.t.ch (by omega) hL hlen.1 hlen.2
        have haw := h.aw
        have hr := h.t.ok.ok.rng _ (lst_mem hL)
        have hact := h.t.act _ (lst_mem hL)
        have hbr := byS_rng hT.ok (setT_ne hL)
        unfold rebS
        split
        · show 0 ≤ s.R.aw ∧ s.R.aw + max s.R.tm (lst s.R.L).s ≤ _
          push_cast; omega
        · show 0 ≤ s.R.aw + byS _ ∧ s.R.aw + byS _ + (max s.R.tm (lst s.R.L).s - byS _) ≤ _
          push_cast; omega
      · dsimp only
        rw [nMove_fw h.lg.ok, h.pts, q1]
        dsimp only
        have e1 : ptsOf (chS s.R (lst s.R.L) ((lst s.R.L).s + cst len (lst s.R.L).w)).L = ptsOf s.R.L := by
          unfold chS setT ptsOf
          dsimp only
          rw [List.map_map]
          refine List.map_congr_left fun t ht => ?_
          show ((if t.f = (lst s.R.L).f then (⟨(lst s.R.L).f, (lst s.R.L).w, (lst s.R.L).s + cst len (lst s.R.L).w⟩ : Tg) else t).f, (if t.f = (lst s.R.L).f then (⟨(lst s.R.L).f, (lst s.R.L).w, (lst s.R.L).s + cst len (lst s.R.L).w⟩ : Tg) else t).w) = (t.f, t.w)
          split
          · rename_i e
            rw [h.t.ok.ok.inj ht (lst_mem hL) e]
          · rfl
        rw [← e1]
        unfold rebS
        split
        · rfl
        · unfold subS ptsOf
          dsimp only
          rw [List.map_map]; rfl
      · dsimp only
        unfold resetC
        split
        · exact (h.nu.mput _ _).filt _
        · exact h.nu.filt _
      · dsimp only
        unfold resetC
        intro y hy
        have hy := (List.mem_filter.1 hy).1
        split at hy
        · unfold bumpC at hy
          rcases mput_mem hy with hy | rfl
          · exact hnv y hy
          · have := h.cnt c.ch
            dsimp only
            push_cast
            split <;> omega
        · exact hnv y hy
    · intro hr hl
      have e3 : C.tm = s.C.tm := by rw [← hC]; rfl
      have e4 : X.tm = s.X.tm := by rw [← hX]; rfl
      have := qs.2.2.2 hr (by rw [e3]; exact hl.c) (by rw [e4]; exact hl.x)
      unfold nextC
      refine ⟨?_, this.1, this.2⟩
      dsimp only
      rw [hcc, q1]
      dsimp only
      obtain ⟨_, hT, hmx⟩ := h.t.ch (by omega) hL hlen.1 hlen.2
      have hby := hT.by_ (setT_ne hL)
      unfold rebS
      rw [hby]
      split
      · omega
      · unfold subS; dsimp only; omega
end Go.Proofs.YtjpahfkchhnpoaaGreat

/- A slot of cifq, walked: heads that do not fit, no heads. -/
namespace Go.Proofs.YtjpahfkchhnpoaaGreat
open Go.RowKit
open SP
section
variable {w w' : World} {R : List SP} {b rp lp cp xp nb N : Nat} {num den reb : Int} {S : St} {Sp : SP}

theorem qcalm_set {x : Addr} {v : Value} (h : Calm w w') : Calm w (w'.setCell x v) := ⟨h.os, h.tape, h.output⟩
theorem qcalm_alloc {x : Obj} (h : Calm w w') : Calm w (w'.alloc x) := ⟨h.os, h.tape, h.output⟩
theorem qcalm_drew (h : Calm w w') : Calm w w'.drew := ⟨h.os, h.tape, h.output⟩
/-- A scheduler, all of it. -/
def CqF (b : Nat) (num den reb : Int) (N : Nat) (s : Cq) : SP := ex fun (p : (Nat × Nat × Nat) × (Nat × Nat)) =>
  st [CqC b num den p.1.1 p.1.2.1 p.1.2.2 p.2.1 p.2.2, SfqR p.1.1 reb s.R, LagR p.1.2.1 N s.D, mpI cntV p.2.2 s.n, OrdR p.1.2.2 reb s.C, OrdR p.2.1 reb s.X]
theorem CqF.iff {s : Cq} : Own w (CqF b num den reb N s :: R) ↔ ∃ rp lp cp xp nb, Own w (CqC b num den rp lp cp xp nb :: SfqR rp reb s.R :: LagR lp N s.D :: mpI cntV nb s.n :: OrdR cp reb s.C :: OrdR xp reb s.X :: R) := by
  constructor
  · intro o
    obtain ⟨⟨⟨rp, lp, cp⟩, xp, nb⟩, h⟩ := Own.ex.1 o
    exact ⟨rp, lp, cp, xp, nb, Own.st.1 h⟩
  · rintro ⟨rp, lp, cp, xp, nb, h⟩
    exact Own.ex.2 ⟨((rp, lp, cp), (xp, nb)), Own.st.2 h⟩

theorem chRow2 {fn : Func} (h : fn.results = #[.cell 4 89, .tmp 5]) {tmps : Array Value} {p : Nat} {x y z : Int} {e : Int} (hp : tmps.getD 4 undef = .pointer (some ⟨p, 0, none⟩)) (he : tmps.getD 5 undef = .int .i64 e)
    (o : Own w (cel p 89 [.int .i64 x, .int .i64 y, .int .i64 z] :: R)) : (results fn tmps).run Tryz.prog w = .ok (.tuple #[chV ⟨x, y, z⟩, .int .i64 e]) w := by
  have c0 := o.cell 0
  have c1 := o.cell 1
  have c2 := o.cell 2
  rw [results_cell_tmp h, hp, he]
  unfold chV
  go_simp

set_option maxHeartbeats 3200000 in
set_option maxRecDepth 100000 in
theorem step_unfit {a : Option Addr} {n c : Nat} {H : List Head} (h1 : HeadsAt Sp a H) (hn : n = H.length) (hl : n ≤ 33) (hf : fitsH S.L H = false) (o : Own w (CqC b num den rp lp cp xp nb :: SfqR rp reb S :: Sp :: R)) :
    Calls Tryz.prog 32 #[.pointer (some ⟨b, 0, none⟩), .slice a n c] w (Ret (.tuple #[chV ch0, .int .i64 1]) (CqC b num den rp lp cp xp nb :: SfqR rp reb S :: Sp :: R) w) := by
  have oA := (o.alloc (.cells #[.int .i64 0, .int .i64 0, .int .i64 0] 89)).alloc (.cells #[.int .i64 (-1), .int .i64 (-1), .int .i64 6] 89)
  simp only [World.size_alloc] at oA
  have hc := fits_spec (c := c) h1 hn (by omega) (oA.re [2, 3, 4, 0, 1])
  rw [hf] at hc
  clear hf hn
  go_enter Tryz.func32, Tryz.ntmps32
  go_wp2_with fail
  refine hc.mono ?_
  rintro e1 w1 ⟨rfl, o1, k1⟩
  clear hc
  have z0 := Own.cell (T := 89) (vs := [.int .i64 0, .int .i64 0, .int .i64 0]) (o1.up 4) 0
  have z1 := Own.cell (T := 89) (vs := [.int .i64 0, .int .i64 0, .int .i64 0]) (o1.up 4) 1
  have z2 := Own.cell (T := 89) (vs := [.int .i64 0, .int .i64 0, .int .i64 0]) (o1.up 4) 2
  have zf := Own.frozen (T := 89) (vs := [.int .i64 0, .int .i64 0, .int .i64 0]) (o1.up 4)
  have zl := Own.celLt (T := 89) (vs := [.int .i64 0, .int .i64 0, .int .i64 0]) (o1.up 4)
  have o5 := Own.setCell (T := 89) (vs := [.int .i64 0, .int .i64 0, .int .i64 0]) (o1.up 4) 0 (.int .i64 0)
  have o6 := Own.setCell (T := 89) (vs := [.int .i64 0, .int .i64 0, .int .i64 0]) o5 1 (.int .i64 0)
  have o7 := Own.setCell (T := 89) (vs := [.int .i64 0, .int .i64 0, .int .i64 0]) o6 2 (.int .i64 0)
  go_wp2
  refine bodyPost_ret (v := .tuple #[chV ⟨0, 0, 0⟩, .int .i64 1]) ?_ rfl ?_
  · exact chRow2 (p := w.heap.size) rfl rfl rfl o7
  · exact ⟨rfl, (o7.drop).re [3] 1, ⟨k1.os, k1.tape, k1.output⟩⟩
set_option maxHeartbeats 3200000 in
set_option maxRecDepth 100000 in
theorem step_empty {a : Option Addr} {c : Nat} (hf : S.L = []) (o : Own w (CqC b num den rp lp cp xp nb :: SfqR rp reb S :: Sp :: R)) :
    Calls Tryz.prog 32 #[.pointer (some ⟨b, 0, none⟩), .slice a 0 c] w (Ret (.tuple #[chV ch0, .int .i64 5]) (CqC b num den rp lp cp xp nb :: SfqR rp reb S :: Sp :: R) w) := by
  have oA := (o.alloc (.cells #[.int .i64 0, .int .i64 0, .int .i64 0] 89)).alloc (.cells #[.int .i64 (-1), .int .i64 (-1), .int .i64 6] 89)
  simp only [World.size_alloc] at oA
  have hc := fits_spec (a := a) (c := c) (n := 0) (H := []) (fun w R _ i h e => by simp at e) rfl (by omega) (oA.re [2, 3, 4, 0, 1])
  have hfit : fitsH S.L [] = true := by rw [hf]; rfl
  rw [hfit] at hc
  clear hf hfit
  go_enter Tryz.func32, Tryz.ntmps32
  go_wp2_with fail
  refine hc.mono ?_
  rintro e1 w1 ⟨rfl, o1, k1⟩
  clear hc
  have z0 := Own.cell (T := 89) (vs := [.int .i64 0, .int .i64 0, .int .i64 0]) (o1.up 4) 0
  have z1 := Own.cell (T := 89) (vs := [.int .i64 0, .int .i64 0, .int .i64 0]) (o1.up 4) 1
  have z2 := Own.cell (T := 89) (vs := [.int .i64 0, .int .i64 0, .int .i64 0]) (o1.up 4) 2
  have zf := Own.frozen (T := 89) (vs := [.int .i64 0, .int .i64 0, .int .i64 0]) (o1.up 4)
  have zl := Own.celLt (T := 89) (vs := [.int .i64 0, .int .i64 0, .int .i64 0]) (o1.up 4)
  have o5 := Own.setCell (T := 89) (vs := [.int .i64 0, .int .i64 0, .int .i64 0]) (o1.up 4) 0 (.int .i64 0)
  have o6 := Own.setCell (T := 89) (vs := [.int .i64 0, .int .i64 0, .int .i64 0]) o5 1 (.int .i64 0)
  have o7 := Own.setCell (T := 89) (vs := [.int .i64 0, .int .i64 0, .int .i64 0]) o6 2 (.int .i64 0)
  go_wp2
  refine bodyPost_ret (v := .tuple #[chV ⟨0, 0, 0⟩, .int .i64 5]) ?_ rfl ?_
  · exact chRow2 (p := w.heap.size) rfl rfl rfl o7
  · exact ⟨rfl, (o7.drop).re [3] 1, ⟨k1.os, k1.tape, k1.output⟩⟩
end
end Go.Proofs.YtjpahfkchhnpoaaGreat

/- The reference's ledger: its list in a pool; At, Join, SetWeight. -/
namespace Go.Proofs.YtjpahfkchhnpoaaGreat
open Go.RowKit
open SP

theorem Tryz.lineT : ElemT Tryz.prog 76 101 3 24 := ElemT.mk' (z := .agg #[.int .i64 0, .int .i64 0, .int .i64 0]) Tryz.underlying76 (by kernel_rfl) rfl (by decide)
/-- The block of a ledger; its list lies in the pool P. -/
def LedR (P : SP) (b : Nat) (L : List Tg) : SP := ex fun (p : Option Addr × Nat) =>
  st [pu ((TagsAt P p.1 L ∧ SlOk p.1 p.2) ∧ L.length ≤ p.2), cel b 78 [.slice p.1 L.length p.2]]
section
variable {P W' : SP} {W w w' : World} {R : List SP} {b : Nat} {L : List Tg}
theorem LedR.iff : Own w (LedR P b L :: R) ↔ ∃ a c, ((TagsAt P a L ∧ SlOk a c) ∧ L.length ≤ c) ∧ Own w (cel b 78 [.slice a L.length c] :: R) := by
  constructor
  · intro o
    obtain ⟨⟨a, c⟩, h⟩ := Own.ex.1 o
    obtain ⟨h1, h2⟩ := Own.pu.1 (Own.st.1 h)
    exact ⟨a, c, h1, h2⟩
  · rintro ⟨a, c, h1, h2⟩
    exact Own.ex.2 ⟨(a, c), Own.st.2 (Own.pu.2 ⟨h1, h2⟩)⟩
theorem LedR.mono {P' : SP} (h : PExtT P P') (o : Own w (LedR P b L :: R)) : Own w (LedR P' b L :: R) := by
  obtain ⟨a, c, ⟨h1, h2⟩, h5⟩ := LedR.iff.1 o
  exact LedR.iff.2 ⟨a, c, ⟨⟨h _ _ h1.1, h1.2⟩, h2⟩, h5⟩
theorem LedR.start (o : Own w (cel b 78 [.slice none 0 0] :: R)) : Own w (LedR P b [] :: R) :=
  LedR.iff.2 ⟨none, 0, ⟨⟨tagsAt_nil _ _, .inl ⟨rfl, rfl⟩⟩, Nat.le_refl _⟩, o⟩
def LAtRel (L : List Tg) (f T : Int) (w : World) (v : Value) (wr : World) : Prop := ∃ i : Nat, v = .int .i64 (i : Int) ∧ i ≤ L.length ∧ idxT f i (L.drop i) = T ∧ wr = w
set_option maxHeartbeats 800000 in
set_option maxRecDepth 100000 in
theorem ledAt_spec (f : Int) (hL : L.length ≤ 1000) (o : Own w (LedR P b L :: P :: R)) :
    Calls Tryz.prog 79 #[.pointer (some ⟨b, 0, none⟩), .int .i64 f] w (IsRet (.int .i64 (idxT f 0 L)) w) := by
  obtain ⟨a, c, ⟨⟨hP, -⟩, hc⟩, o1⟩ := LedR.iff.1 o
  have c1 := o1.cell 0
  have hT : LAtRel L f (idxT f 0 L) w (.int .i64 0) w := ⟨0, rfl, by omega, rfl, rfl⟩
  generalize idxT f 0 L = T at *
  generalize hn : L.length = n at *
  have Hn := Lib.hid hn
  clear hn
  go_enter Tryz.func79, Tryz.ntmps79
  go_wp2
  go_loopw [5] (fun v wr => LAtRel L f T w v wr) (fun v _ => n - (ivOf v).toNat)
  case atStart => exact hT
  case round =>
    clear hT
    obtain ⟨i, rfl, hi, hE, rfl⟩ := hrel
    rw [Hn.out] at hi
    have HT := Lib.hid hE
    clear hE
    by_cases hlt : i < n
    · obtain ⟨⟨x, y, z⟩, hx⟩ : ∃ x, L[i]? = some x := ⟨_, List.getElem?_eq_getElem (by rw [Hn.out]; exact hlt)⟩
      obtain ⟨g, so, hg, d0, d1, d2⟩ := hP _ _ (o1.up 1) i _ hx
      subst hg
      have HD := Lib.hid (drop_at hx)
      clear hx
      dsimp only at d0 d1 d2
      by_cases he : x = f
      · subst he
        go_wp2
        go_ret
        refine ⟨?_, rfl⟩
        rw [← HT.out, HD.out, idxT, if_pos rfl]; rfl
      · have heb : (x == f) = false := by simpa using he
        go_wp2
        go_roundw
        case rel => exact ⟨i + 1, by go_num, by rw [Hn.out]; omega, by rw [← HT.out, HD.out, idxT, if_neg he], rfl⟩
        case measure => simp [ivOf]; omega
    · go_wp2
      go_ret
      have hin : i = n := by omega
      refine ⟨?_, rfl⟩
      rw [← HT.out, List.drop_eq_nil_of_le (by rw [Hn.out]; omega)]; rfl

/-- A list of the ledger's own goes to the pool. -/
theorem led_new {a9 : Option Addr} {n9 c9 : Nat} {L2 : List Tg} {xs : List Value} (hn : n9 = L2.length) (hx : xs = flat tagC L2)
    (o : Own w (slc 101 3 a9 n9 c9 xs :: cel b 78 [.slice a9 n9 c9] :: P :: R)) :
    Own w (LedR (st [slc 101 3 a9 n9 c9 xs, P]) b L2 :: st [slc 101 3 a9 n9 c9 xs, P] :: R) := by
  subst hn
  subst hx
  have h1 := slOk_slc o
  have n1 := o.slc_len.2.1
  have oC : Own w (st [slc 101 3 a9 L2.length c9 (flat tagC L2), P] :: _) := Own.st.2 (o.re [0, 2, 1])
  exact LedR.iff.2 ⟨a9, c9, ⟨⟨(tagsAt_slcT _ _ _ _ rfl).new, h1⟩, n1⟩, oC.swap⟩
def LedPost (v : Value) (b : Nat) (L : List Tg) (P : SP) (R : List SP) (w : World) (e : Ending) (w' : World) : Prop :=
  ∃ P', PExtT P P' ∧ Ret v (LedR P' b L :: P' :: R) w e w'
theorem LedPost.same {v : Value} {e : Ending} (o : Own w (LedR P b L :: P :: R)) (h : IsRet v w e w') : LedPost v b L P R w e w' := by
  obtain ⟨rfl, rfl⟩ := h
  exact ⟨P, PExtT.refl P, rfl, o, Calm.refl w⟩
def LJRel (P : SP) (b : Nat) (f : Int) (L : List Tg) (a : Option Addr) (c : Nat) (R : List SP) (w : World) (fin : Bool) (v10 : Value) (wr : World) : Prop :=
  ∃ (k : Nat), v10 = .int .i64 (k : Int) ∧ k ≤ L.length ∧ (∀ (j : Nat) (t : Tg), j < k → L[j]? = some t → t.f < f) ∧ (fin = true → ∀ t : Tg, L[k]? = some t → ¬ t.f < f) ∧
    Own wr (cel b 78 [.slice a L.length c] :: P :: R) ∧ Calm w wr

theorem ledJoin_end {P : SP} {w8 : World} {R : List SP} {b nb : Nat} {L2 : List Tg} {a9 a0 : Option Addr} {n9 c9 n0 c0 : Nat} {x : Obj} {xs : List Value} (hL2 : xs = flat tagC L2) (hn : n9 = L2.length)
    (o : Own w8 (slc 101 3 a9 n9 c9 xs :: SP.blk nb x :: cel b 78 [.slice a0 n0 c0] :: P :: R)) :
    Own (w8.setCell ⟨b, 0, none⟩ (.slice a9 n9 c9)) (LedR (st [slc 101 3 a9 n9 c9 xs, P]) b L2 :: st [slc 101 3 a9 n9 c9 xs, P] :: R) := by
  have oA := (o.up 2).setCell 0 (.slice a9 n9 c9)
  exact led_new hn hL2 (oA.re [2, 1, 0, 3] 1)
theorem ledJoin_err (f wt er : Int) (hL : L.length ≤ 1000) (he : (f < 0 ∨ 32 ≤ f ∨ wt < 1 ∨ 16 < wt) ∧ er = 1 ∨ ¬ (f < 0 ∨ 32 ≤ f ∨ wt < 1 ∨ 16 < wt) ∧ (fget L f).isSome ∧ er = 7) (o : Own w (LedR P b L :: P :: R)) :
    Calls Tryz.prog 42 #[.pointer (some ⟨b, 0, none⟩), .int .i64 f, .int .i64 wt] w (IsRet (.int .i64 er) w) := by
  rcases he with ⟨hb, rfl⟩ | ⟨hb, hs, rfl⟩
  · by_cases h1 : f < 0
    · clear hb
      go_enter Tryz.func42, Tryz.ntmps42
      go_wp2
      go_ret
      exact ⟨rfl, rfl⟩
    · by_cases h2 : 32 ≤ f
      · clear hb
        go_enter Tryz.func42, Tryz.ntmps42
        go_wp2
        go_ret
        exact ⟨rfl, rfl⟩
      · by_cases h3 : wt < 1
        · clear hb
          go_enter Tryz.func42, Tryz.ntmps42
          go_wp2
          go_ret
          exact ⟨rfl, rfl⟩
        · have h4 : 16 < wt := by omega
          clear hb
          go_enter Tryz.func42, Tryz.ntmps42
          go_wp2
          go_ret
          exact ⟨rfl, rfl⟩
  · obtain ⟨t, ht⟩ := Option.isSome_iff_exists.1 hs
    obtain ⟨i, hi, hai⟩ := idxT_some 0 L ht
    have hat := ledAt_spec f hL o
    rw [hai, Nat.zero_add] at hat
    have h1 : ¬ f < 0 := by omega
    have h2 : ¬ 32 ≤ f := by omega
    have h3 : ¬ wt < 1 := by omega
    have h4 : ¬ 16 < wt := by omega
    clear hb hs ht hai hi
    go_enter Tryz.func42, Tryz.ntmps42
    go_wp2_with fail
    refine hat.mono ?_
    rintro e1 w1 ⟨rfl, rfl⟩
    go_wp2
    go_ret
    exact ⟨rfl, rfl⟩

set_option maxHeartbeats 6400000 in
set_option maxRecDepth 100000 in
theorem ledJoin_ok (f wt : Int) (hf : 0 ≤ f ∧ f < 32) (hw : 1 ≤ wt ∧ wt ≤ 16) (hn : fget L f = none) (hL : L.length ≤ 1000) (o : Own w (LedR P b L :: P :: R)) :
    Calls Tryz.prog 42 #[.pointer (some ⟨b, 0, none⟩), .int .i64 f, .int .i64 wt] w (LedPost (.int .i64 0) b (insT ⟨f, wt, 0⟩ L) P R w) := by
  have hat := ledAt_spec f hL o
  rw [idxT_none 0 L hn] at hat
  obtain ⟨a, c, ⟨⟨hP1, hs1⟩, hc1⟩, o1⟩ := LedR.iff.1 o
  have h1 : ¬ f < 0 := by omega
  have h2 : ¬ 32 ≤ f := by omega
  have h3 : ¬ wt < 1 := by omega
  have h4 : ¬ 16 < wt := by omega
  clear hf hw hn
  go_enter Tryz.func42, Tryz.ntmps42
  go_wp2_with fail
  refine hat.mono ?_
  rintro e2 w2 ⟨rfl, rfl⟩
  clear hat h1 h2 h3 h4
  go_upto_block 0 with fail
  go_cut [7] (fun v10 wc => LJRel P b f L a c R w true v10 wc)
  case first =>
    go_wp2
    go_loopw [7] (fun v10 wc => LJRel P b f L a c R w false v10 wc) (fun v _ => L.length - (ivOf v).toNat)
    case atStart => exact ⟨0, rfl, by omega, fun j t hj => by omega, fun h => (by cases h), o1, Calm.refl w⟩
    case round =>
      clear o o1
      obtain ⟨k, rfl, hk, hlk, -, oK, kK⟩ := hrel
      have e1 := oK.cell 0
      by_cases hkl : k < L.length
      · obtain ⟨⟨y0, y1, y2⟩, hy⟩ : ∃ y, L[k]? = some y := ⟨_, List.getElem?_eq_getElem hkl⟩
        obtain ⟨g, so, hg, d0, d1, d2⟩ := hP1 _ _ (oK.up 1) k _ hy
        subst hg
        have HY := Lib.hid hy
        clear hy
        dsimp only at d0 d1 d2
        by_cases hl : y0 < f
        · go_wp2
          go_roundw
          case rel =>
            refine ⟨k + 1, by go_num, by omega, fun j t hj ht => ?_, fun h => (by cases h), oK, kK⟩
            by_cases hjk : j = k
            · subst hjk; rw [HY.out] at ht; cases ht; exact hl
            · exact hlk j t (by omega) ht
          case measure => simp [ivOf]; omega
        · go_wp2
          go_meet
          exact ⟨k, rfl, hk, hlk, fun _ t ht => by rw [HY.out] at ht; cases ht; show ¬ y0 < f; omega, oK, kK⟩
      · go_wp2
        go_meet
        exact ⟨k, rfl, hk, hlk, fun _ t ht => by have := (List.getElem?_eq_some_iff.1 ht).1; omega, oK, kK⟩
  case rest =>
    clear o o1
    obtain ⟨k, rfl, hk, hlk, hfin, oK, kK⟩ := hcut
    have hins := insT_split ⟨f, wt, 0⟩ k L hk hlk (hfin rfl)
    have HI := Lib.hid hins
    clear hins hlk hfin
    have e1 := oK.cell 0
    have el := oK.celLt
    have oZ := slc_zero (e := 101) (size := 3) ((oK.alloc (.cells #[] 101)))
    have src0 : ∀ (w : World) (a : Option Addr) (c' : Nat), IsSrc w (.slice a 0 c') 3 0 [] := fun w a c' => ⟨a, c', rfl, by simp, by simp, .inl rfl⟩
    have SRC := Lib.hid src0
    clear src0
    rcases hs1 with ⟨rfl, rfl⟩ | ⟨g, rfl⟩
    · obtain rfl : L = [] := List.eq_nil_of_length_eq_zero (by omega)
      obtain rfl : k = 0 := by simpa using hk
      go_wp2_with (at_builtin; refine wpList_append_src rfl _ _ rfl Tryz.lineT rfl oZ rfl (SRC.out _ _ _) (by unfold maxLen; omega) (by omega) ?k1)
      case k1 =>
      intro a5 c5 w5 o5 k5
      have q2 := (o5.up 1).cell 0
      have oN := (o5.alloc (.cells #[.int .i64 f, .int .i64 wt, .int .i64 0] 101)).re [1, 0, 2, 3]
      have hnw := Own.news (T := 101) (vs := [.int .i64 f, .int .i64 wt, .int .i64 0]) (o5.alloc _)
      go_wp2_with (at_builtin; refine wpList_append_slc rfl _ _ rfl Tryz.lineT rfl oN ⟨w5.heap.size, 0, none⟩ 1 1 [.int .i64 f, .int .i64 wt, .int .i64 0] rfl rfl hnw (by intro u hu; simp at hu; rcases hu with rfl | rfl | rfl <;> rfl) (by unfold maxLen; omega) (by omega) ?k2)
      case k2 =>
      intro a7 c7 w7 o7 k7
      have q7 := (o7.up 2).cell 0
      have ql7 := (o7.up 2).celLt
      go_wp2_with (at_builtin; refine wpList_append_src rfl _ _ rfl Tryz.lineT rfl o7 rfl (SRC.out _ _ _) (by unfold maxLen; omega) (by omega) ?k3)
      case k3 =>
      intro a9 c9 w9 o9 k9
      have q9 := (o9.up 2).cell 0
      have qf9 := (o9.up 2).frozen
      have ql9 := (o9.up 2).celLt
      have oE := ledJoin_end (L2 := insT ⟨f, wt, 0⟩ []) (by rw [HI.out]; rfl) (by rw [HI.out]; rfl) o9
      go_wp2
      go_ret
      exact ⟨_, PExtT.add _ _, rfl, oE, kK.trans (Calm.trans ⟨k5.os, k5.tape, k5.output⟩ (k7.al.trans (k9.trans ⟨rfl, rfl, rfl⟩)))⟩
    · have b0 : (0 : Int) ≤ (k : Int) := by omega
      have b1 : (k : Int) ≤ (c : Int) := by omega
      have b1' : k ≤ c := by omega
      have b2 : (k : Int) ≤ (L.length : Int) := by omega
      have s1 := tags_cut (i := 0) (k := k) (c := c) hP1 (by omega) (oZ.up 2)
      rw [Nat.zero_mul, Nat.add_zero, List.drop_zero] at s1
      by_cases hkc : k = c
      · subst hkc
        have hkL : L.length = k := by omega
        have hdz : L.drop k = [] := List.drop_eq_nil_of_le (by omega)
        have HDZ := Lib.hid hdz
        have z0 : L.length - k = 0 := by omega
        have z1 : (L.length : Int) ≤ (k : Int) := by omega
        have HKL := Lib.hid hkL
        clear hdz hkL
        go_wp2_with (at_builtin; refine wpList_append_src rfl _ _ rfl Tryz.lineT rfl oZ rfl s1 (by unfold maxLen; omega) (by omega) ?k1)
        case k1 =>
        intro a5 c5 w5 o5 k5
        have q2 := (o5.up 1).cell 0
        have oN := (o5.alloc (.cells #[.int .i64 f, .int .i64 wt, .int .i64 0] 101)).re [1, 0, 2, 3]
        have hnw := Own.news (T := 101) (vs := [.int .i64 f, .int .i64 wt, .int .i64 0]) (o5.alloc _)
        go_wp2_with (at_builtin; refine wpList_append_slc rfl _ _ rfl Tryz.lineT rfl oN ⟨w5.heap.size, 0, none⟩ 1 1 [.int .i64 f, .int .i64 wt, .int .i64 0] rfl rfl hnw (by intro u hu; simp at hu; rcases hu with rfl | rfl | rfl <;> rfl) (by unfold maxLen; omega) (by omega) ?k2)
        case k2 =>
        intro a7 c7 w7 o7 k7
        have q7 := (o7.up 2).cell 0
        have ql7 := (o7.up 2).celLt
        go_wp2_with (at_builtin; refine wpList_append_src rfl _ _ rfl Tryz.lineT rfl o7 rfl (SRC.out _ _ _) (by unfold maxLen; omega) (by omega) ?k3)
        case k3 =>
        intro a9 c9 w9 o9 k9
        have q9 := (o9.up 2).cell 0
        have qf9 := (o9.up 2).frozen
        have ql9 := (o9.up 2).celLt
        have oE := ledJoin_end (L2 := insT ⟨f, wt, 0⟩ L) (by rw [HI.out]; rw [HDZ.out, List.append_nil, flat_append]; rfl) (by rw [HI.out]; rw [HDZ.out, List.append_nil, List.length_append, List.length_take, HKL.out]; simp) o9
        go_wp2
        go_ret
        exact ⟨_, PExtT.add _ _, rfl, oE, kK.trans (Calm.trans ⟨k5.os, k5.tape, k5.output⟩ (k7.al.trans (k9.trans ⟨rfl, rfl, rfl⟩)))⟩
      · have hkc1 : ((k : Int) == (c : Int)) = false := by rw [beq_eq_false_iff_ne]; omega
        have hkc2 : ¬ c = k := by omega
        have hkc3 : ¬ k = c := hkc
        have hdr : (L.drop k).take (L.length - k) = L.drop k := List.take_of_length_le (by rw [List.length_drop]; omega)
        have HDR := Lib.hid hdr
        clear hdr
        go_wp2_with (at_builtin; refine wpList_append_src rfl _ _ rfl Tryz.lineT rfl oZ rfl s1 (by unfold maxLen; omega) (by omega) ?k1)
        case k1 =>
        intro a5 c5 w5 o5 k5
        have q2 := (o5.up 1).cell 0
        have oN := (o5.alloc (.cells #[.int .i64 f, .int .i64 wt, .int .i64 0] 101)).re [1, 0, 2, 3]
        have hnw := Own.news (T := 101) (vs := [.int .i64 f, .int .i64 wt, .int .i64 0]) (o5.alloc _)
        go_wp2_with (at_builtin; refine wpList_append_slc rfl _ _ rfl Tryz.lineT rfl oN ⟨w5.heap.size, 0, none⟩ 1 1 [.int .i64 f, .int .i64 wt, .int .i64 0] rfl rfl hnw (by intro u hu; simp at hu; rcases hu with rfl | rfl | rfl <;> rfl) (by unfold maxLen; omega) (by omega) ?k2)
        case k2 =>
        intro a7 c7 w7 o7 k7
        have q7 := (o7.up 2).cell 0
        have ql7 := (o7.up 2).celLt
        have s2 := tags_cut (i := k) (k := L.length - k) (c := c - k) hP1 (by omega) (o7.up 3)
        rw [HDR.out, Nat.zero_add] at s2
        go_wp2_with (at_builtin; refine wpList_append_src rfl _ _ rfl Tryz.lineT rfl o7 rfl s2 (by unfold maxLen; omega) (by omega) ?k3)
        case k3 =>
        intro a9 c9 w9 o9 k9
        have q9 := (o9.up 2).cell 0
        have qf9 := (o9.up 2).frozen
        have ql9 := (o9.up 2).celLt
        have oE := ledJoin_end (L2 := insT ⟨f, wt, 0⟩ L) (by rw [HI.out]; rw [flat_append, flat_append]; simp [flat, tagC]) (by rw [HI.out]; rw [List.length_append, List.length_append, List.length_take, List.length_drop]; simp; omega) o9
        go_wp2
        go_ret
        exact ⟨_, PExtT.add _ _, rfl, oE, kK.trans (Calm.trans ⟨k5.os, k5.tape, k5.output⟩ (k7.al.trans (k9.trans ⟨rfl, rfl, rfl⟩)))⟩
theorem ledJoin_spec (f wt : Int) (hok : NOk L) (o : Own w (LedR P b L :: P :: R)) :
    Calls Tryz.prog 42 #[.pointer (some ⟨b, 0, none⟩), .int .i64 f, .int .i64 wt] w (LedPost (.int .i64 (nJoin L f wt).1) b (nJoin L f wt).2 P R w) := by
  have hL := hok.len
  unfold nJoin
  by_cases hb : f < 0 ∨ 32 ≤ f ∨ wt < 1 ∨ 16 < wt
  · rw [if_pos hb]
    exact (ledJoin_err f wt 1 (by omega) (.inl ⟨hb, rfl⟩) o).mono fun e w' h => LedPost.same o h
  · rw [if_neg hb]
    by_cases hs : (fget L f).isSome
    · rw [if_pos hs]
      exact (ledJoin_err f wt 7 (by omega) (.inr ⟨hb, hs, rfl⟩) o).mono fun e w' h => LedPost.same o h
    · rw [if_neg hs]
      exact ledJoin_ok f wt (by omega) (by omega) (by simpa using hs) (by omega) o

set_option maxHeartbeats 3200000 in
set_option maxRecDepth 100000 in
theorem ledSetw_spec (f wt : Int) (hok : NOk L) (o : Own w (LedR P b L :: P :: R)) :
    Calls Tryz.prog 54 #[.pointer (some ⟨b, 0, none⟩), .int .i64 f, .int .i64 wt] w (LedPost (.int .i64 (nSetw L f wt).1) b (nSetw L f wt).2 P R w) := by
  have hL := hok.len
  have hat := ledAt_spec f (by omega) o
  cases hf : fget L f with
  | none =>
    have e : nSetw L f wt = (6, L) := by unfold nSetw; rw [hf]
    rw [e]; clear e
    rw [idxT_none 0 L hf] at hat
    clear hf
    go_enter Tryz.func54, Tryz.ntmps54
    go_wp2_with fail
    refine hat.mono ?_
    rintro e1 w1 ⟨rfl, rfl⟩
    go_wp2
    go_ret
    exact LedPost.same o ⟨rfl, rfl⟩
  | some t =>
    obtain ⟨i, hi, hai⟩ := idxT_some 0 L hf
    rw [hai, Nat.zero_add] at hat
    obtain ⟨-, rfl⟩ := fget_some hf
    by_cases hbad : wt < 1 ∨ 16 < wt
    · have e : nSetw L t.f wt = (1, L) := by unfold nSetw; rw [hf]; simp only; rw [if_pos hbad]
      rw [e]; clear e hf hi hai
      by_cases h1 : wt < 1
      · clear hbad
        go_enter Tryz.func54, Tryz.ntmps54
        go_wp2_with fail
        refine hat.mono ?_
        rintro e1 w1 ⟨rfl, rfl⟩
        go_wp2
        go_ret
        exact LedPost.same o ⟨rfl, rfl⟩
      · have h2 : 16 < wt := by omega
        clear hbad
        go_enter Tryz.func54, Tryz.ntmps54
        go_wp2_with fail
        refine hat.mono ?_
        rintro e1 w1 ⟨rfl, rfl⟩
        go_wp2
        go_ret
        exact LedPost.same o ⟨rfl, rfl⟩
    · have e : nSetw L t.f wt = (0, setT ⟨t.f, wt, t.s⟩ L) := by unfold nSetw; rw [hf]; simp only; rw [if_neg hbad]
      rw [e]; clear e
      have h1 : ¬ wt < 1 := by omega
      have h2 : ¬ 16 < wt := by omega
      have hil := (List.getElem?_eq_some_iff.1 hi).1
      have hset := setT_atP (x := ⟨t.f, wt, t.s⟩) hok.asc hi rfl
      have hfs := flat_set tagC_len L i 1 t ⟨t.f, wt, t.s⟩ (.int .i64 wt) hi (by omega) rfl
      have HS := Lib.hid hset
      have HF := Lib.hid hfs
      obtain ⟨a, c, ⟨⟨hP, hs⟩, hc⟩, o1⟩ := LedR.iff.1 o
      have c1 := o1.cell 0
      have cl := o1.celLt
      have cf := o1.frozen
      have oZ := slc_zero (e := 101) (size := 3) ((o1.alloc (.cells #[] 101)))
      have hsrc := tags_src (c := c) hP rfl (oZ.up 2)
      have hfg := flat_get tagC_len L i 1 t hi (by omega)
      have HFG := Lib.hid hfg
      clear hf hai hi hset hfs hfg hbad
      go_enter Tryz.func54, Tryz.ntmps54
      go_wp2_with fail
      refine hat.mono ?_
      rintro e1 w1 ⟨rfl, rfl⟩
      go_wp2_with (at_builtin; refine wpList_append_src rfl _ _ rfl Tryz.lineT rfl oZ rfl hsrc (by unfold maxLen; omega) (by omega) ?k1)
      case k1 =>
      intro a5 c5 w5 o5 k5
      have o5z := o5
      have q1 := (o5z.up 1).cell 0
      have ql := (o5z.up 1).celLt
      have qf := (o5z.up 1).frozen
      have oS := ((o5z.up 1).setCell 0 (.slice a5 L.length c5))
      have s1 := oS.cell 0
      rcases Own.slc.1 (oS.up 1) with ⟨_, hz, _⟩ | ⟨g, sp, rfl, _, hcm, _, _, _⟩
      · omega
      · obtain ⟨g', hg', hc', hf', hl'⟩ := (oS.up 1).slc_cell (by omega)
        cases hg'
        have d1 := hc' (i * 3 + 1) _ HFG.out
        have df := hf'
        have o7 := (oS.up 1).slc_set (i * 3 + 1) (.int .i64 wt) (by rw [flat_length tagC_len]; omega)
        rw [← HF.out, HS.out] at o7
        have hlen : L.length = (setT ⟨t.f, wt, t.s⟩ L).length := by rw [← HS.out, List.length_set]
        have oE := led_new (L2 := setT ⟨t.f, wt, t.s⟩ L) hlen rfl o7
        clear hlen
        go_wp2
        go_ret
        exact ⟨_, PExtT.add _ _, rfl, oE, Calm.trans ⟨k5.os, k5.tape, k5.output⟩ ⟨rfl, rfl, rfl⟩⟩
end
end Go.Proofs.YtjpahfkchhnpoaaGreat

/- The program's ledger of lags: Lagging, Leading. -/
namespace Go.Proofs.YtjpahfkchhnpoaaGreat
open Go.RowKit
open SP
section
variable {W w w' : World} {b N : Nat} {L : List Tg} {R : List SP}

theorem Tryz.intT : ElemT Tryz.prog 22 3 1 8 := ElemT.mk' Tryz.underlying22 (z := .int .i64 0) (by kernel_rfl) (by kernel_rfl) (by omega)
/-- The flows whose lag has a property. -/
def sideL (p : Int → Bool) (L : List Tg) : List Int := (L.filter fun t => p t.s).map (·.f)
def laggingP (x : Int) : Bool := decide (0 < x)
def leadingP (x : Int) : Bool := decide (x < 0)
theorem sideL_snoc (p : Int → Bool) (L : List Tg) (t : Tg) : sideL p (L ++ [t]) = if p t.s then sideL p L ++ [t.f] else sideL p L := by
  unfold sideL
  rw [List.filter_append]
  by_cases h : p t.s = true
  · rw [if_pos h, List.filter_cons_of_pos (by simpa using h)]; simp
  · rw [if_neg h, List.filter_cons_of_neg (by simpa using h)]; simp
theorem sideL_len (p : Int → Bool) (L : List Tg) : (sideL p L).length ≤ L.length := by
  unfold sideL; rw [List.length_map]; exact List.length_filter_le _ _
def SdRel (p : Int → Bool) (b ab : Nat) (L : List Tg) (m : List (Int × Tg)) (a : Option Addr) (cap : Nat) (ks : List Int) (R : List SP) (w : World) (v5 v15 : Value) (wr : World) : Prop :=
  ∃ (i n : Nat) (a' : Option Addr) (c' : Nat), v15 = .int .i64 (i : Int) ∧ i ≤ L.length ∧ v5 = .slice a' n c' ∧ n = (sideL p (L.take i)).length ∧ n ≤ i ∧
    Own wr (slc 3 1 a' n c' (i64s (sideL p (L.take i))) :: slc 3 1 a ks.length cap (ks.map (Value.int .i64)) :: cel b 112 [.map (some ab)] :: mpI accV ab m :: R) ∧ Calm w wr
def SidePost (p : Int → Bool) (b N : Nat) (L : List Tg) (R : List SP) (w : World) (e : Ending) (w' : World) : Prop :=
  ∃ (a : Option Addr) (c : Nat), Ret (.slice a (sideL p L).length c) (slc 3 1 a (sideL p L).length c (i64s (sideL p L)) :: LagR b N L :: R) w e w'

end
end Go.Proofs.YtjpahfkchhnpoaaGreat

/- The reference's ledger: Lag, Parts, Side, Sum. -/
namespace Go.Proofs.YtjpahfkchhnpoaaGreat
open Go.RowKit
open SP
section
variable {P W' : SP} {W w w' : World} {R : List SP} {b : Nat} {L : List Tg}
set_option maxHeartbeats 800000 in
theorem ledLag_spec (f : Int) (hL : L.length ≤ 1000) (o : Own w (LedR P b L :: P :: R)) :
    Calls Tryz.prog 71 #[.pointer (some ⟨b, 0, none⟩), .int .i64 f] w (IsRet (lagV L f) w) := by
  have hat := ledAt_spec f hL o
  cases hf : fget L f with
  | none =>
    have e : lagV L f = .tuple #[.int .i64 0, .bool false] := by unfold lagV; rw [hf]
    rw [e]; clear e
    rw [idxT_none 0 L hf] at hat
    clear hf
    go_enter Tryz.func71, Tryz.ntmps71
    go_wp2_with fail
    refine hat.mono ?_
    rintro e1 w1 ⟨rfl, rfl⟩
    go_wp2
    go_ret2
    exact ⟨rfl, rfl⟩
  | some t =>
    have e : lagV L f = .tuple #[.int .i64 t.s, .bool true] := by unfold lagV; rw [hf]
    rw [e]; clear e
    obtain ⟨i, hi, hai⟩ := idxT_some 0 L hf
    rw [hai, Nat.zero_add] at hat
    obtain ⟨a, c, ⟨⟨hP, -⟩, hc⟩, o1⟩ := LedR.iff.1 o
    have c1 := o1.cell 0
    obtain ⟨g, so, rfl, d0, d1, d2⟩ := hP _ _ (o1.up 1) i _ hi
    have hil := (List.getElem?_eq_some_iff.1 hi).1
    clear hf hai hi
    go_enter Tryz.func71, Tryz.ntmps71
    go_wp2_with fail
    refine hat.mono ?_
    rintro e1 w1 ⟨rfl, rfl⟩
    go_wp2
    go_ret2
    exact ⟨rfl, rfl⟩

def LsRel (P : SP) (b : Nat) (L : List Tg) (R : List SP) (w : World) (v3 v4 : Value) (wr : World) : Prop :=
  ∃ (i : Nat), v4 = .int .i64 (i : Int) ∧ v3 = .int .i64 (sumS (L.take i)) ∧ i ≤ L.length ∧ Own wr (LedR P b L :: P :: R) ∧ Calm w wr
theorem sumS_snoc (L : List Tg) (t : Tg) : sumS (L ++ [t]) = sumS L + t.s := by
  unfold sumS lags; rw [List.map_append]; exact sumI_snoc _ _
theorem sumS_abs : ∀ L : List Tg, ab (sumS L) ≤ absS L
  | [] => Int.le_refl _
  | t :: L => by rw [sumS_cons, absS_cons]; have := sumS_abs L; unfold ab at *; omega
theorem absS_take (L : List Tg) (i : Nat) : absS (L.take i) ≤ absS L := by
  induction L generalizing i with
  | nil => rw [List.take_nil]; exact Int.le_refl _
  | cons t L ih =>
    cases i with
    | zero => rw [List.take_zero]; exact absS_nonneg _
    | succ i => rw [List.take_succ_cons, absS_cons, absS_cons]; have := ih i; omega
def LpRel (P : SP) (b : Nat) (a : Option Addr) (c : Nat) (L : List Tg) (R : List SP) (w : World) (v3 v4 : Value) (wr : World) : Prop :=
  ∃ (i : Nat) (a' : Option Addr) (c' : Nat), v4 = .int .i64 (i : Int) ∧ i ≤ L.length ∧ v3 = .slice a' i c' ∧
    Own wr (slc 145 2 a' i c' (flat part ((ptsOf L).take i)) :: cel b 78 [.slice a L.length c] :: P :: R) ∧ Calm w wr
def LedPartsC (P : SP) (b : Nat) (aL : Option Addr) (cL : Nat) (L : List Tg) (R : List SP) (w : World) (e : Ending) (w' : World) : Prop :=
  ∃ (a : Option Addr) (c : Nat), Ret (.slice a L.length c) (slc 145 2 a L.length c (flat part (ptsOf L)) :: cel b 78 [.slice aL L.length cL] :: P :: R) w e w'
def LedPartsPost (P : SP) (b : Nat) (L : List Tg) (R : List SP) (w : World) (e : Ending) (w' : World) : Prop :=
  ∃ (a : Option Addr) (c : Nat), Ret (.slice a L.length c) (slc 145 2 a L.length c (flat part (ptsOf L)) :: LedR P b L :: P :: R) w e w'
set_option maxHeartbeats 3200000 in
set_option maxRecDepth 100000 in
theorem ledPartsC_spec {a : Option Addr} {c : Nat} (hL : L.length ≤ 1000) (hP : TagsAt P a L) (o : Own w (cel b 78 [.slice a L.length c] :: P :: R)) :
    Calls Tryz.prog 83 #[.pointer (some ⟨b, 0, none⟩)] w (LedPartsC P b a c L R w) := by
  have hT : LpRel P b a c L R w (.slice none 0 0) (.int .i64 0) w := ⟨0, none, 0, rfl, by omega, rfl, Own.slc_nil o, Calm.refl w⟩
  clear o
  go_enter Tryz.func83, Tryz.ntmps83
  go_wp2
  go_loopw [3, 4] (fun v3 v4 wr => LpRel P b a c L R w v3 v4 wr) (fun _ v _ => L.length - (ivOf v).toNat)
  case atStart => exact hT
  case round =>
    clear hT
    obtain ⟨i, a', c', rfl, hi, rfl, oR, kR⟩ := hrel
    have o1 := oR.re [1, 0, 2]
    have c1 := o1.cell 0
    by_cases hlt : i < L.length
    · obtain ⟨t, ht⟩ : ∃ t, L[i]? = some t := ⟨_, List.getElem?_eq_getElem hlt⟩
      obtain ⟨g, so, rfl, d0, d1, d2⟩ := hP _ _ (o1.up 2) i _ ht
      have htk : (ptsOf L).take (i + 1) = (ptsOf L).take i ++ [(t.f, t.w)] := by
        rw [List.take_add_one]; unfold ptsOf; rw [List.getElem?_map, ht]; rfl
      have HTK := Lib.hid htk
      have oA := (o1.alloc (.cells #[.int .i64 t.f, .int .i64 t.w] 145)).drew
      have hnw := Own.news (T := 145) (vs := [.int .i64 t.f, .int .i64 t.w]) oA
      have HT := Lib.hid ht
      clear ht htk
      have hbl := o1.celLt
      go_wp2
      go_region_held3 (fun wx => wx.cell? ⟨b, 0, none⟩ = some (.slice (some ⟨g, so, none⟩) L.length c) ∧ wx.cell? ⟨g, so + i * 3, none⟩ = some (.int .i64 t.f) ∧ wx.cell? ⟨g, so + i * 3 + 1, none⟩ = some (.int .i64 t.w)) (go_keep) (first | (refine step_append_src rfl _ _ rfl Tryz.partT rfl (oA.up 2) rfl ⟨_, _, rfl, rfl, by intro u hu; simp at hu; rcases hu with rfl | rfl <;> rfl, .inr ⟨_, rfl, hnw⟩⟩ (by unfold maxLen; omega) (by omega) ?_; intro a2 c2 w5 o5 k5; have x1 := (o5.up 2).cell 0; obtain ⟨_, _, hh, p0, p1, p2⟩ := hP _ _ (o5.up 3) i _ HT.out; cases hh))
      all_goals go_wp2
      all_goals go_roundw
      all_goals first
        | (case rel => exact ⟨i + 1, a2, c2, by go_num, by omega, rfl, by rw [HTK.out, flat_append]; exact (o5.re [1, 0, 2, 3] 1), ⟨k5.os.trans kR.os, k5.tape.trans kR.tape, k5.output.trans kR.output⟩⟩)
        | (case measure => simp [ivOf]; omega)
    · have hin : i = L.length := by omega
      subst hin
      rw [List.take_of_length_le (by rw [ptsOf_len]; omega)] at oR
      go_wp2
      go_ret
      exact ⟨a', c', rfl, oR, kR⟩
theorem ledParts_spec (hL : L.length ≤ 1000) (o : Own w (LedR P b L :: P :: R)) :
    Calls Tryz.prog 83 #[.pointer (some ⟨b, 0, none⟩)] w (LedPartsPost P b L R w) := by
  obtain ⟨a, c, ⟨⟨hP, hs⟩, hc⟩, o1⟩ := LedR.iff.1 o
  refine (ledPartsC_spec hL hP o1).mono ?_
  rintro e w' ⟨a', c', rfl, o2, k2⟩
  exact ⟨a', c', rfl, Own.swap (LedR.iff.2 ⟨a, c, ⟨⟨hP, hs⟩, hc⟩, o2.swap⟩), k2⟩

def LdRel (p : Int → Bool) (P : SP) (b : Nat) (L : List Tg) (R : List SP) (w : World) (v5 v6 : Value) (wr : World) : Prop :=
  ∃ (i n : Nat) (a' : Option Addr) (c' : Nat), v6 = .int .i64 (i : Int) ∧ i ≤ L.length ∧ v5 = .slice a' n c' ∧ n = (sideL p (L.take i)).length ∧ n ≤ i ∧
    Own wr (slc 3 1 a' n c' (i64s (sideL p (L.take i))) :: LedR P b L :: P :: R) ∧ Calm w wr
def LedSidePost (p : Int → Bool) (P : SP) (b : Nat) (L : List Tg) (R : List SP) (w : World) (e : Ending) (w' : World) : Prop :=
  ∃ (a : Option Addr) (c : Nat), Ret (.slice a (sideL p L).length c) (slc 3 1 a (sideL p L).length c (i64s (sideL p L)) :: LedR P b L :: P :: R) w e w'
end
end Go.Proofs.YtjpahfkchhnpoaaGreat

/- Shares by weights: ref1.Split. -/
namespace Go.Proofs.YtjpahfkchhnpoaaGreat
open Go.RowKit
open SP
section
variable {w w' : World} {R : List SP}

def RvRel (l : List (Int × Int)) (Sp : SP) (R : List SP) (w : World) (v3 : Value) (wr : World) : Prop :=
  ∃ i : Nat, v3 = .int .i64 (i : Int) ∧ i ≤ l.length ∧ Own wr (Sp :: R) ∧ Calm w wr
set_option maxHeartbeats 3200000 in
set_option maxRecDepth 100000 in
theorem refValidParts_spec {Sp : SP} {l : List (Int × Int)} {a : Option Addr} {n c : Nat} (hS : PartsAt Sp a l) (hok : PtOk l) (hn : n = l.length) (o : Own w (Sp :: R)) :
    Calls Tryz.prog 112 #[.slice a n c] w (Ret (.bool true) (Sp :: R) w) := by
  have hl := hok.len
  have hn2 : n ≤ 32 := by omega
  have hn64 : decide (64 < (n : Int)) = false := decide_eq_false (by omega)
  have Hn := Lib.hid hn
  have HOK := Lib.hid hok
  clear hn hl hok
  go_enter Tryz.func112, Tryz.ntmps112
  go_wp2
  go_loopw [3] (fun v3 wr => RvRel l Sp R w v3 wr) (fun v _ => n - (ivOf v).toNat)
  case atStart => exact ⟨0, rfl, by omega, o, Calm.refl w⟩
  case round =>
    obtain ⟨i, rfl, hi, oR, kR⟩ := hrel
    by_cases hlt : i < n
    · obtain ⟨t, ht⟩ : ∃ t, l[i]? = some t := ⟨_, List.getElem?_eq_getElem (by have := Hn.out; omega)⟩
      have h2 := HOK.out.rng t (List.mem_of_getElem? ht)
      cases i with
      | zero =>
        obtain ⟨g, so, rfl, d0, d1⟩ := hS _ _ oR 0 _ ht
        obtain ⟨x, y⟩ := t
        dsimp only at d0 d1 h2
        clear ht
        obtain ⟨h2, h3, h4, h5⟩ := h2
        simp only [Nat.zero_mul, Nat.add_zero] at d0 d1
        have f1 : decide (x < 0) = false := decide_eq_false (by omega)
        have f2 : decide (y < 1) = false := decide_eq_false (by omega)
        have f3 : decide (2147483648 < y) = false := decide_eq_false (by omega)
        go_wp2
        go_quiet (fail)
        go_wp2
        go_roundw
        case rel => exact ⟨1, by go_num, by have := Hn.out; omega, oR.drewN _, kR.dn _⟩
        case measure => simp [ivOf]; omega
      | succ k =>
        obtain ⟨u, hu⟩ : ∃ u, l[k]? = some u := ⟨_, List.getElem?_eq_getElem (by have := Hn.out; omega)⟩
        obtain ⟨g, so, rfl, d0, d1⟩ := hS _ _ oR (k + 1) _ ht
        obtain ⟨g', so', hgg, e0, e1⟩ := hS _ _ oR k _ hu
        cases hgg
        have hlt2 : u.1 < t.1 := by
          have := List.pairwise_iff_getElem.1 HOK.out.asc k (k + 1) (List.getElem?_eq_some_iff.1 hu).1 (List.getElem?_eq_some_iff.1 ht).1 (by omega)
          rw [(List.getElem?_eq_some_iff.1 hu).2, (List.getElem?_eq_some_iff.1 ht).2] at this
          exact this
        obtain ⟨x, y⟩ := t
        obtain ⟨x', y'⟩ := u
        dsimp only at d0 d1 e0 e1 h2 hlt2
        clear ht hu
        obtain ⟨h2, h3, h4, h5⟩ := h2
        have f0 : decide (x ≤ x') = false := decide_eq_false (by omega)
        have f1 : decide (x < 0) = false := decide_eq_false (by omega)
        have f2 : decide (y < 1) = false := decide_eq_false (by omega)
        have f3 : decide (2147483648 < y) = false := decide_eq_false (by omega)
        have f4 : decide (0 < k + 1) = true := decide_eq_true (by omega)
        have f5 : decide ((0 : Int) < ((k + 1 : Nat) : Int)) = true := decide_eq_true (by omega)
        have hk : ((k + 1 : Nat) : Int) - 1 = (k : Int) := by omega
        have hk2 : (k : Int) + 1 - 1 = (k : Int) := by omega
        go_wp2
        go_quiet (fail)
        go_wp2
        go_roundw
        case rel => exact ⟨k + 2, by go_num, by have := Hn.out; omega, oR.drewN _, kR.dn _⟩
        case measure => simp [ivOf]; omega
    · go_wp2
      go_ret
      exact ⟨rfl, oR, kR⟩

set_option maxHeartbeats 3200000 in
set_option maxRecDepth 100000 in
theorem refSplit_spec {Sp : SP} {l : List (Int × Int)} {ar : Option Addr} {n c : Nat} (a : Int) (ha : ab a ≤ 36028797018963968) (hS : PartsAt Sp ar l) (hok : PtOk l) (hn : n = l.length) (o : Own w (Sp :: R)) :
    Calls Tryz.prog 82 #[.int .i64 a, .slice ar n c] w (ShPost a l Sp R w) := by
  have hv := refValidParts_spec (c := c) hS hok hn o
  have hl := hok.len
  have hn2 : n ≤ 32 := by omega
  by_cases h0 : l = []
  · subst h0
    have : n = 0 := hn
    subst this
    clear hn hl hn2 hok hS
    go_enter Tryz.func82, Tryz.ntmps82
    go_wp2_with fail
    refine hv.mono ?_
    rintro e1 w1 ⟨rfl, o1, k1⟩
    go_wp2
    go_ret2
    exact ⟨none, 0, rfl, o1.slc_nil, k1⟩
  · have hpos : 0 < n := by rw [hn]; exact List.length_pos_iff.2 h0
    have hn0 : ((n : Int) == 0) = false := by simp; omega
    have hrest : ∀ p ∈ l, 1 ≤ p.2 ∧ p.2 ≤ 16 := fun p hp => ⟨(hok.rng p hp).2.2.1, (hok.rng p hp).2.2.2⟩
    have hTpos : 0 < sumI (pws l) := sumI_pos (by unfold pws; simpa using h0) (pws_pos hok)
    have hTle : sumI (pws l) ≤ 16 * (l.length : Int) := by
      have := sumI_le (pws l) fun x hx => by
        obtain ⟨p, hp, rfl⟩ := List.mem_map.1 hx
        exact (hrest p hp).2
      unfold pws at this; rw [List.length_map] at this; exact this
    have hdrop : ∀ i, 0 ≤ sumI (pws (l.drop i)) := fun i => sumI_nonneg _ fun x hx => by
      obtain ⟨p, hp, rfl⟩ := List.mem_map.1 hx
      have := hrest p (List.mem_of_mem_drop hp); omega
    have HTl := Lib.hid (show sumI (pws l) ≤ 512 by omega)
    have HTp := Lib.hid hTpos
    have HN := Lib.hid hn
    have HDr := Lib.hid hdrop
    have HRest := Lib.hid hrest
    have H0 := Lib.hid h0
    have hmk := makeI_run n (by omega)
    clear hn hTpos hTle hdrop hrest hl h0
    go_enter Tryz.func82, Tryz.ntmps82
    go_wp2_with fail
    refine hv.mono ?_
    rintro e1 w1 ⟨rfl, o1, k1⟩
    clear hv
    go_wp2
    go_loopw [6, 7] (fun v6 v24 wr => SpRel1 l Sp R w v6 v24 wr) (fun _ v _ => n - (ivOf v).toNat)
    case atStart => exact ⟨0, 0, rfl, rfl, by omega, by omega, by rw [List.drop_zero]; omega, o1, k1⟩
    case round =>
      obtain ⟨i, s, rfl, rfl, hi, hs0, hs, oR, kR⟩ := hrel
      by_cases hlt : i < n
      · obtain ⟨t, ht⟩ : ∃ t, l[i]? = some t := ⟨_, List.getElem?_eq_getElem (by have := HN.out; omega)⟩
        obtain ⟨g, so, rfl, d0, d1⟩ := hS _ _ oR i _ ht
        have h2 := HRest.out t (List.mem_of_getElem? ht)
        have hs2 := hs
        rw [pws_drop ht] at hs2
        have hdn := HDr.out (i + 1)
        have hTl := HTl.out
        obtain ⟨x, y⟩ := t
        dsimp only at d0 d1 h2 hs2
        have hw : IntKind.i64.wrap (s + y) = s + y := by rw [IntKind.wrap_i64]; omega
        have hlen := HN.out
        have HS := Lib.hid hs2
        have HL := Lib.hid hlen
        clear hs2 hdn hTl hs ht hlen
        go_wp2
        go_roundw
        case rel => exact ⟨i + 1, s + y, by go_num, rfl, by have := HL.out; omega, by omega, by have := HS.out; omega, oR, ⟨kR.os, kR.tape, kR.output⟩⟩
        case measure => simp [ivOf]; omega
      · have hil : i = l.length := by have := HN.out; omega
        have hsT : s = sumI (pws l) := by
          rw [hil, List.drop_length] at hs
          have : sumI (pws ([] : List (Int × Int))) = 0 := rfl
          omega
        have HT1 := Lib.hid hsT
        have hT1 : 1 ≤ s ∧ s ≤ 512 := by have := HTl.out; have := HTp.out; omega
        clear hsT hs hil hs0
        have hMD : ∀ (x : Int) (W : World) (R' : List SP), 1 ≤ x → x ≤ 16 → Own W R' → Calls Tryz.prog 113 #[.int .i64 a, .int .i64 x, .int .i64 s, .int .i64 (if a < 0 then 1 else 0)] W (Ret (.tuple #[.int .i64 ((a * x).tdiv s), .int .i64 0]) R' W) :=
          fun x W R' h1 h2 o' => refMulDivI_spec a x s ha h1 h2 (by omega) (by omega) o'
        have HMD := Lib.hid hMD
        clear hMD
        by_cases hneg : a < 0
        · have f1 : decide (a < 0) = true := decide_eq_true hneg
          have hrd : (if a < 0 then (1 : Int) else 0) = 1 := if_pos hneg
          rw [hrd] at HMD
          have HA := Lib.hid ha
          have HNEG := Lib.hid hneg
          clear hneg ha hrd hT1
          go_wp2
          have oZ := oR.alloc (.cells (List.replicate n (Value.int .i64 0)).toArray 2)
          generalize hg : wr.heap.size = g at *
          have HG := Lib.hid hg
          clear hg
          go_loopw [9, 10] (fun v11 v41 wr' => SpRel2 a s l g Sp R w v11 v41 wr') (fun _ v _ => n - (ivOf v).toNat)
          case atStart => exact ⟨0, 0, rfl, by rw [Int.sub_zero], by omega, rfl, by decide, by rw [List.take_zero, Nat.sub_zero, ← HN.out]; exact oZ, ⟨kR.os, kR.tape, kR.output⟩⟩
          case round =>
            obtain ⟨j, sm, rfl, rfl, hj, hsm, hsb, oQ, kQ⟩ := hrel
            by_cases hlt2 : j < n
            · obtain ⟨t, ht⟩ : ∃ t, l[j]? = some t := ⟨_, List.getElem?_eq_getElem (by have := HN.out; omega)⟩
              obtain ⟨g2, so, rfl, d0, d1⟩ := hS _ _ (oQ.up 1) j _ ht
              have h2 := HRest.out t (List.mem_of_getElem? ht)
              have hget := truncs_get a s ht
              obtain ⟨x, y⟩ := t
              dsimp only at d0 d1 h2 hget
              obtain ⟨q, hq⟩ : ∃ q, (a * y).tdiv s = q := ⟨_, rfl⟩
              have hcall : ∀ (W : World) (R' : List SP), Own W R' → Calls Tryz.prog 113 #[.int .i64 a, .int .i64 y, .int .i64 s, .int .i64 1] W (Ret (.tuple #[.int .i64 q, .int .i64 0]) R' W) := fun W R' o' => by
                have := HMD.out y W R' h2.1 h2.2 o'
                rw [hq] at this; exact this
              have hy : y ≤ s := by rw [HT1.out]; exact mem_le_sumI (fun z hz => by
                obtain ⟨p, hp, rfl⟩ := List.mem_map.1 hz
                have := HRest.out p hp; omega) (List.mem_map.2 ⟨(x, y), List.mem_of_getElem? ht, rfl⟩)
              have hqa : ab q ≤ 36028797018963968 := by
                rw [← hq]
                exact Int.le_trans (trunc_abs a y s (by omega) hy (by omega)) HA.out
              have hla : (truncs a s (pws l)).length = l.length := by rw [truncs_len]; unfold pws; rw [List.length_map]
              have hA2 := HA.out
              have hj2 : (j : Int) ≤ 31 := by omega
              have hw : IntKind.i64.wrap (a - sm - q) = a - (sm + q) := by unfold ab at hsb hqa hA2; rw [IntKind.wrap_i64]; omega
              have hsb2 : ab (sm + q) ≤ ((j + 1 : Nat) : Int) * 36028797018963968 := by unfold ab at hsb hqa ⊢; omega
              rw [hq] at hget
              have HC := Lib.hid hcall
              have HB2 := Lib.hid hsb2
              have HNL := HN.out
              have c0z := zeros_at (j := j) hla (by omega)
              have hzs := zeros_set (n := l.length) hget (by omega)
              have hsm2 : sm + q = sumI ((truncs a s (pws l)).take (j + 1)) := by rw [take_next hget, sumI_snoc, ← hsm]
              have HS2 := Lib.hid hsm2
              have HZS := Lib.hid hzs
              have HZ := Lib.hid c0z
              have HNL2 := Lib.hid HNL
              clear hcall hq hy hqa hla hA2 hsb2 hsb hget c0z hzs hsm2 hsm HNL ht
              have oA := oQ
              go_wp2_with fail
              refine (HC.out _ _ oA).mono ?_
              rintro e3 w3 ⟨rfl, o3, k3⟩
              have c1 := o3.cell j HZ.out
              have hf := o3.frozen
              have hlt3 := o3.celLt
              have oS := o3.setCell j (.int .i64 q)
              rw [HZS.out] at oS
              go_wp2
              go_roundw
              case rel => exact ⟨j + 1, sm + q, by go_num, rfl, by have := HNL2.out; omega, HS2.out, HB2.out, oS, ⟨k3.os.trans kQ.os, k3.tape.trans kQ.tape, k3.output.trans kQ.output⟩⟩
              case measure => simp [ivOf]; omega
            · have hjl : j = l.length := by have := HN.out; omega
              subst hjl
              have hla : (truncs a s (pws l)).length = l.length := by rw [truncs_len]; unfold pws; rw [List.length_map]
              rw [zeros_end hla] at oQ
              rw [List.take_of_length_le (by omega)] at hsm
              obtain ⟨q0, ds, hds⟩ : ∃ q0 ds, truncs a s (pws l) = q0 :: ds := by
                cases hT : truncs a s (pws l) with
                | nil => rw [hT] at hla; have := H0.out; simp at hla; exact absurd (List.eq_nil_of_length_eq_zero hla.symm) this
                | cons q0 ds => exact ⟨_, _, rfl⟩
              rw [hds] at oQ hsm
              have c1 := oQ.cell 0
              have hf := oQ.frozen
              have hlt3 := oQ.celLt
              obtain ⟨p0, hp0⟩ : ∃ p, l[0]? = some p := ⟨_, List.getElem?_eq_getElem (by have := HN.out; omega)⟩
              have hq0 : ab q0 ≤ 36028797018963968 := by
                have h1 := truncs_get a s hp0
                rw [hds] at h1
                have h2 := HRest.out p0 (List.mem_of_getElem? hp0)
                have e : q0 = (a * p0.2).tdiv s := by simpa using h1
                rw [e]
                refine Int.le_trans (trunc_abs a p0.2 s (by omega) ?_ (by have := HT1.out; have := HTp.out; omega)) HA.out
                rw [HT1.out]; exact mem_le_sumI (fun z hz => by
                obtain ⟨p, hp, rfl⟩ := List.mem_map.1 hz
                have := HRest.out p hp; omega) (List.mem_map.2 ⟨p0, List.mem_of_getElem? hp0, rfl⟩)
              have hA2 := HA.out
              have hw : IntKind.i64.wrap (q0 + (a - sm)) = q0 + (a - sm) := by have := HN.out; unfold ab at hsb hq0 hA2; rw [IntKind.wrap_i64]; omega
              have oS := oQ.setCell 0 (.int .i64 (q0 + (a - sm)))
              have HDS := Lib.hid hds
              have HSM := Lib.hid hsm
              have HNL2 := Lib.hid HN.out
              clear hds hsm hsb hq0 hA2 hp0 hla
              go_wp2
              go_ret2
              have hne := H0.out
              have hds := HDS.out
              rw [HT1.out] at hds
              have hsm := HSM.out
              rw [hsm] at oS
              have := sh_end hds (by have := HNL2.out; omega) oS (Calm.trans kQ ⟨rfl, rfl, rfl⟩) hne
              rw [← HNL2.out, ← hsm] at this
              exact this
        · have f1 : decide (a < 0) = false := decide_eq_false hneg
          have hrd : (if a < 0 then (1 : Int) else 0) = 0 := if_neg hneg
          rw [hrd] at HMD
          have HA := Lib.hid ha
          have HNEG := Lib.hid hneg
          clear hneg ha hrd hT1
          go_wp2
          have oZ := oR.alloc (.cells (List.replicate n (Value.int .i64 0)).toArray 2)
          generalize hg : wr.heap.size = g at *
          have HG := Lib.hid hg
          clear hg
          go_loopw [9, 10] (fun v11 v41 wr' => SpRel2 a s l g Sp R w v11 v41 wr') (fun _ v _ => n - (ivOf v).toNat)
          case atStart => exact ⟨0, 0, rfl, by rw [Int.sub_zero], by omega, rfl, by decide, by rw [List.take_zero, Nat.sub_zero, ← HN.out]; exact oZ, ⟨kR.os, kR.tape, kR.output⟩⟩
          case round =>
            obtain ⟨j, sm, rfl, rfl, hj, hsm, hsb, oQ, kQ⟩ := hrel
            by_cases hlt2 : j < n
            · obtain ⟨t, ht⟩ : ∃ t, l[j]? = some t := ⟨_, List.getElem?_eq_getElem (by have := HN.out; omega)⟩
              obtain ⟨g2, so, rfl, d0, d1⟩ := hS _ _ (oQ.up 1) j _ ht
              have h2 := HRest.out t (List.mem_of_getElem? ht)
              have hget := truncs_get a s ht
              obtain ⟨x, y⟩ := t
              dsimp only at d0 d1 h2 hget
              obtain ⟨q, hq⟩ : ∃ q, (a * y).tdiv s = q := ⟨_, rfl⟩
              have hcall : ∀ (W : World) (R' : List SP), Own W R' → Calls Tryz.prog 113 #[.int .i64 a, .int .i64 y, .int .i64 s, .int .i64 0] W (Ret (.tuple #[.int .i64 q, .int .i64 0]) R' W) := fun W R' o' => by
                have := HMD.out y W R' h2.1 h2.2 o'
                rw [hq] at this; exact this
              have hy : y ≤ s := by rw [HT1.out]; exact mem_le_sumI (fun z hz => by
                obtain ⟨p, hp, rfl⟩ := List.mem_map.1 hz
                have := HRest.out p hp; omega) (List.mem_map.2 ⟨(x, y), List.mem_of_getElem? ht, rfl⟩)
              have hqa : ab q ≤ 36028797018963968 := by
                rw [← hq]
                exact Int.le_trans (trunc_abs a y s (by omega) hy (by omega)) HA.out
              have hla : (truncs a s (pws l)).length = l.length := by rw [truncs_len]; unfold pws; rw [List.length_map]
              have hA2 := HA.out
              have hj2 : (j : Int) ≤ 31 := by omega
              have hw : IntKind.i64.wrap (a - sm - q) = a - (sm + q) := by unfold ab at hsb hqa hA2; rw [IntKind.wrap_i64]; omega
              have hsb2 : ab (sm + q) ≤ ((j + 1 : Nat) : Int) * 36028797018963968 := by unfold ab at hsb hqa ⊢; omega
              rw [hq] at hget
              have HC := Lib.hid hcall
              have HB2 := Lib.hid hsb2
              have HNL := HN.out
              have c0z := zeros_at (j := j) hla (by omega)
              have hzs := zeros_set (n := l.length) hget (by omega)
              have hsm2 : sm + q = sumI ((truncs a s (pws l)).take (j + 1)) := by rw [take_next hget, sumI_snoc, ← hsm]
              have HS2 := Lib.hid hsm2
              have HZS := Lib.hid hzs
              have HZ := Lib.hid c0z
              have HNL2 := Lib.hid HNL
              clear hcall hq hy hqa hla hA2 hsb2 hsb hget c0z hzs hsm2 hsm HNL ht
              have oA := oQ
              go_wp2_with fail
              refine (HC.out _ _ oA).mono ?_
              rintro e3 w3 ⟨rfl, o3, k3⟩
              have c1 := o3.cell j HZ.out
              have hf := o3.frozen
              have hlt3 := o3.celLt
              have oS := o3.setCell j (.int .i64 q)
              rw [HZS.out] at oS
              go_wp2
              go_roundw
              case rel => exact ⟨j + 1, sm + q, by go_num, rfl, by have := HNL2.out; omega, HS2.out, HB2.out, oS, ⟨k3.os.trans kQ.os, k3.tape.trans kQ.tape, k3.output.trans kQ.output⟩⟩
              case measure => simp [ivOf]; omega
            · have hjl : j = l.length := by have := HN.out; omega
              subst hjl
              have hla : (truncs a s (pws l)).length = l.length := by rw [truncs_len]; unfold pws; rw [List.length_map]
              rw [zeros_end hla] at oQ
              rw [List.take_of_length_le (by omega)] at hsm
              obtain ⟨q0, ds, hds⟩ : ∃ q0 ds, truncs a s (pws l) = q0 :: ds := by
                cases hT : truncs a s (pws l) with
                | nil => rw [hT] at hla; have := H0.out; simp at hla; exact absurd (List.eq_nil_of_length_eq_zero hla.symm) this
                | cons q0 ds => exact ⟨_, _, rfl⟩
              rw [hds] at oQ hsm
              have c1 := oQ.cell 0
              have hf := oQ.frozen
              have hlt3 := oQ.celLt
              obtain ⟨p0, hp0⟩ : ∃ p, l[0]? = some p := ⟨_, List.getElem?_eq_getElem (by have := HN.out; omega)⟩
              have hq0 : ab q0 ≤ 36028797018963968 := by
                have h1 := truncs_get a s hp0
                rw [hds] at h1
                have h2 := HRest.out p0 (List.mem_of_getElem? hp0)
                have e : q0 = (a * p0.2).tdiv s := by simpa using h1
                rw [e]
                refine Int.le_trans (trunc_abs a p0.2 s (by omega) ?_ (by have := HT1.out; have := HTp.out; omega)) HA.out
                rw [HT1.out]; exact mem_le_sumI (fun z hz => by
                obtain ⟨p, hp, rfl⟩ := List.mem_map.1 hz
                have := HRest.out p hp; omega) (List.mem_map.2 ⟨p0, List.mem_of_getElem? hp0, rfl⟩)
              have hA2 := HA.out
              have hw : IntKind.i64.wrap (q0 + (a - sm)) = q0 + (a - sm) := by have := HN.out; unfold ab at hsb hq0 hA2; rw [IntKind.wrap_i64]; omega
              have oS := oQ.setCell 0 (.int .i64 (q0 + (a - sm)))
              have HDS := Lib.hid hds
              have HSM := Lib.hid hsm
              have HNL2 := Lib.hid HN.out
              clear hds hsm hsb hq0 hA2 hp0 hla
              go_wp2
              go_ret2
              have hne := H0.out
              have hds := HDS.out
              rw [HT1.out] at hds
              have hsm := HSM.out
              rw [hsm] at oS
              have := sh_end hds (by have := HNL2.out; omega) oS (Calm.trans kQ ⟨rfl, rfl, rfl⟩) hne
              rw [← HNL2.out, ← hsm] at this
              exact this
end
end Go.Proofs.YtjpahfkchhnpoaaGreat

/- The reference's ledger: Leave. -/
namespace Go.Proofs.YtjpahfkchhnpoaaGreat
open Go.RowKit
open SP
section
variable {P W' : SP} {W w w' : World} {R : List SP} {b : Nat} {L : List Tg}
def LedMid (b : Nat) (D : List Tg) (P : SP) (R : List SP) (w wc : World) : Prop :=
  ∃ (a9 : Option Addr) (c9 : Nat), Own wc (slc 101 3 a9 D.length c9 (flat tagC D) :: cel b 78 [.slice a9 D.length c9] :: P :: R) ∧ Calm w wc
theorem led_mid {w6 : World} {a6 a0 : Option Addr} {n n0 c0 c6 : Nat} {D : List Tg} {xs : List Value} (hn : n = D.length) (hx : xs = flat tagC D)
    (o : Own w6 (slc 101 3 a6 n c6 xs :: cel b 78 [.slice a0 n0 c0] :: P :: R)) (k : Calm w w6) :
    LedMid b D P R w (w6.setCell ⟨b, 0, none⟩ (.slice a6 n c6)) := by
  subst hn
  subst hx
  exact ⟨a6, c6, (o.swap.setCell 0 (.slice a6 D.length c6)).swap, ⟨k.os, k.tape, k.output⟩⟩
def LvLRel (b : Nat) (D : List Tg) (Q : List Int) (a9 : Option Addr) (c9 : Nat) (ga : Option Addr) (gc : Nat) (P : SP) (R : List SP) (w : World) (v10 : Value) (wr : World) : Prop :=
  ∃ (i : Nat), v10 = .int .i64 (i : Int) ∧ i ≤ D.length ∧
    Own wr (slc 101 3 a9 D.length c9 (flat tagC (addS D (Q.take i))) :: slc 2 1 ga D.length gc (i64s Q) :: cel b 78 [.slice a9 D.length c9] :: P :: R) ∧ Calm w wr
theorem addS_asc {D : List Tg} (h : D.Pairwise fun a b => a.f < b.f) (Q : List Int) : (addS D Q).Pairwise fun a b => a.f < b.f := by
  have e := addS_fw D Q
  have ef : (addS D Q).map (·.f) = D.map (·.f) := by
    have := congrArg (List.map Prod.fst) e
    rw [List.map_map, List.map_map] at this
    exact this
  rw [asc_iff, ef, ← asc_iff]; exact h

set_option maxHeartbeats 6400000 in
set_option maxRecDepth 100000 in
theorem ledLeave_spec {N : Nat} (f : Int) (hok : LgOk N L) (hN : (N : Int) ≤ 1000000000000) (o : Own w (LedR P b L :: P :: R)) :
    Calls Tryz.prog 48 #[.pointer (some ⟨b, 0, none⟩), .int .i64 f] w (LedPost (.tuple #[.int .i64 (nLeave L f).1.1, .int .i64 (nLeave L f).1.2]) b (nLeave L f).2 P R w) := by
  have hL := hok.ok.len
  have hat := ledAt_spec f (by omega) o
  cases hf : fget L f with
  | none =>
    have e : nLeave L f = ((0, 6), L) := by unfold nLeave; rw [hf]
    rw [e]; clear e
    rw [idxT_none 0 L hf] at hat
    clear hf hok
    go_enter Tryz.func48, Tryz.ntmps48
    go_wp2_with fail
    refine hat.mono ?_
    rintro e1 w1 ⟨rfl, rfl⟩
    go_wp2
    go_ret2
    exact LedPost.same o ⟨rfl, rfl⟩
  | some t =>
    have e : nLeave L f = ((t.s, 0), addS (delT f L) (lagSplit t.s (wts (delT f L)))) := by unfold nLeave; rw [hf]
    rw [e]; clear e
    obtain ⟨i, hi, hai⟩ := idxT_some 0 L hf
    rw [hai, Nat.zero_add] at hat
    have hil := (List.getElem?_eq_some_iff.1 hi).1
    obtain ⟨ht, rfl⟩ := fget_some hf
    have hdel := delT_atP hok.ok.asc hi
    have hokD := hok.del ht
    have hlagD : ∀ u ∈ delT t.f L, -(8192 * (N : Int)) ≤ u.s ∧ u.s ≤ 8192 * (N : Int) := fun u hu => hokD.lag hu
    have hts := hok.lag ht
    have hab : Go.Proofs.YtjpahfkchhnpoaaGreat.ab t.s ≤ 36028797018963968 := by unfold Go.Proofs.YtjpahfkchhnpoaaGreat.ab; omega
    have hptD := ptsOf_ok hokD.ok
    have hD := hokD.ok.len
    have hasc := hokD.ok.asc'
    have hasc2 := hokD.ok.asc
    have hQa := lagSplit_abs t.s (wts_pos hokD.ok)
    have hts2 : Go.Proofs.YtjpahfkchhnpoaaGreat.ab t.s ≤ 8192 * (N : Int) := by unfold Go.Proofs.YtjpahfkchhnpoaaGreat.ab; omega
    have HDEL := Lib.hid hdel
    have HQA := Lib.hid (And.intro hQa hts2)
    have HLD := Lib.hid hlagD
    have HAB := Lib.hid hab
    have HPT := Lib.hid hptD
    have HASC := Lib.hid (And.intro hasc hasc2)
    have HN := Lib.hid hN
    clear hdel hokD hlagD hts hab hptD hasc hasc2 hQa hts2 hN
    obtain ⟨a, c, ⟨⟨hP, hs⟩, hc⟩, o1⟩ := LedR.iff.1 o
    obtain ⟨g, so, hag, d0, d1, d2⟩ := hP _ _ (o1.up 1) i t hi
    obtain ⟨g0, hg0⟩ : ∃ g0, a = some ⟨g0, 0, none⟩ := by
      rcases hs with ⟨h, _⟩ | h
      · rw [hag] at h; cases h
      · exact h
    rw [hg0] at hag
    cases hag
    subst hg0
    rw [Nat.zero_add] at d0 d1 d2
    have c1 := o1.cell 0
    have hfz := o1.frozen
    have hlt := o1.celLt
    have hg2 : g < w.heap.size := World.block_lt_of_cell? w _ d0
    have HI := Lib.hid hi
    have oZ := slc_zero (e := 101) (size := 3) ((o1.drew.alloc (.cells #[] 101)))
    have s1 := tags_cut (i := 0) (k := i) (c := c) hP (by omega) (oZ.up 2)
    rw [Nat.zero_mul, Nat.add_zero, List.drop_zero] at s1
    have hp2 : ∀ (w : World) (R : List SP) (a : Option Addr) (c' : Nat), (a = some ⟨g, (i + 1) * 3, none⟩ ∨ L.length - (i + 1) = 0) → Own w (P :: R) → IsSrc w (.slice a (L.length - (i + 1)) c') 3 (L.length - (i + 1)) (flat tagC (L.drop (i + 1))) := fun w R a c' ha o => by
      have e : ((L.drop (i + 1)).take (L.length - (i + 1))) = L.drop (i + 1) := List.take_of_length_le (by rw [List.length_drop]; omega)
      rcases ha with rfl | ha
      · have := tags_cut (i := i + 1) (k := L.length - (i + 1)) (c := c') hP (by omega) o
        rw [e, Nat.zero_add] at this
        exact this
      · rw [ha]
        have : L.drop (i + 1) = [] := List.drop_eq_nil_of_le (by omega)
        rw [this]
        exact ⟨a, c', rfl, by simp [flat], by simp [flat], .inl rfl⟩
    have HP2 := Lib.hid hp2
    have hcl : (L.take i ++ L.drop (i + 1)).length = i + (L.length - (i + 1)) := by rw [List.length_append, List.length_take, List.length_drop]; omega
    have HC2 := Lib.hid hcl
    clear hp2 hcl hf hai hi
    have b1 : (0 : Int) ≤ (i : Int) := by omega
    have b2 : (i : Int) ≤ (c : Int) := by omega
    have b2' : i ≤ c := by omega
    have b7 : (i : Int) + 1 ≤ (L.length : Int) := by omega
    have b8 : (i : Int) + 1 ≤ (c : Int) := by omega
    have b9 : i + 1 ≤ L.length := by omega
    have b4 : 0 ≤ (i : Int) + 1 := by omega
    have N1 : Hid (0 + i ≤ maxLen) := Lib.hid (by unfold maxLen; omega)
    have N2 : Hid ((0 + i) * 24 ≤ 140737488355328) := Lib.hid (by omega)
    have N3 : Hid (i + (L.length - (i + 1)) ≤ maxLen) := Lib.hid (by unfold maxLen; omega)
    have N4 : Hid ((i + (L.length - (i + 1))) * 24 ≤ 140737488355328) := Lib.hid (by omega)
    have b5 : IntKind.i64.wrap ((i : Int) + 1) = (i : Int) + 1 := by rw [IntKind.wrap_i64]; omega
    have b6 : ((i : Int) + 1).toNat = i + 1 := by omega
    go_enter Tryz.func48, Tryz.ntmps48
    go_wp2_with fail
    refine hat.mono ?_
    rintro e1 w1 ⟨rfl, rfl⟩
    clear hat
    go_upto_region 5 with fail
    go_cut [40] (fun _ wc => LedMid b (delT t.f L) P R w wc)
    case first =>
      by_cases hic : i + 1 = c
      · subst hic
        have z1 : (i : Int) ≤ (i : Int) + 1 := by omega
        have z2 : (L.length : Int) ≤ (i : Int) + 1 := by omega
        have z3 : L.length ≤ i + 1 := by omega
        have HDZ : Hid (L.drop (i + 1) = []) := Lib.hid (List.drop_eq_nil_of_le z3)
        have src0 : ∀ (w : World) (a : Option Addr) (c' : Nat), IsSrc w (.slice a 0 c') 3 0 [] := fun w a c' => ⟨a, c', rfl, by simp, by simp, .inl rfl⟩
        have SRC := Lib.hid src0
        have N5 : Hid (i + 0 ≤ maxLen) := Lib.hid (by unfold maxLen; omega)
        have N6 : Hid ((i + 0) * 24 ≤ 140737488355328) := Lib.hid (by omega)
        have hti : Hid ((L.take i ++ ([] : List Tg)).length = i) := Lib.hid (by rw [List.append_nil, List.length_take]; omega)
        clear src0
        go_region_law (first
          | (refine step_append_src rfl _ _ rfl Tryz.lineT rfl oZ rfl s1 N1.out N2.out ?_; intro a5 c5 w5 o5 k5; have o5z := slc_plus o5; have q5 := (o5.up 1).cell 0)
          | (refine step_append_src rfl _ _ rfl Tryz.lineT rfl o5z rfl (SRC.out _ _ _) N5.out N6.out ?_; intro a6 c6 w6 o6 k6; have q6 := (o6.up 1).cell 0; have qf6 := (o6.up 1).frozen; have ql6 := (o6.up 1).celLt))
        all_goals go_wp2
        all_goals go_meet
        all_goals (have k10 := Calm.trans k5 k6; rw [← HDEL.out, HDZ.out]; exact led_mid hti.out.symm (by simp) o6 ⟨k10.os, k10.tape, k10.output⟩)
      · have hic2 : ((i : Int) + 1 == (c : Int)) = false := by rw [beq_eq_false_iff_ne]; omega
        have hic3 : ¬ c = i + 1 := by omega
        go_region_law (first
          | (refine step_append_src rfl _ _ rfl Tryz.lineT rfl oZ rfl s1 N1.out N2.out ?_; intro a5 c5 w5 o5 k5; have o5z := slc_plus o5; have q5 := (o5.up 1).cell 0)
          | (refine step_append_src rfl _ _ rfl Tryz.lineT rfl o5z rfl (HP2.out _ _ _ _ (.inl rfl) (o5z.up 2)) N3.out N4.out ?_; intro a6 c6 w6 o6 k6; have q6 := (o6.up 1).cell 0; have qf6 := (o6.up 1).frozen; have ql6 := (o6.up 1).celLt))
        all_goals go_wp2
        all_goals go_meet
        all_goals (have k10 := Calm.trans k5 k6; rw [← HDEL.out]; exact led_mid HC2.out.symm (flat_append _ _ _).symm o6 ⟨k10.os, k10.tape, k10.output⟩)
    case rest =>
      obtain ⟨a9, c9, o9, k9⟩ := hcut
      clear oZ s1 o1 o c1 hfz hlt d0 d1 d2 hg2 hc hs hP
      generalize delT t.f L = D at *
      have hpc := ledPartsC_spec (by omega) (tagsAt_slcT (T := 101) a9 D.length c9 D rfl) o9.swap
      go_wp2_with fail
      refine hpc.mono ?_
      rintro e3 w3 ⟨pa, pc, rfl, o10, k10⟩
      have hsp := refSplit_spec (w := w3) (c := pc) t.s HAB.out (partsAt_slc pa D.length pc (ptsOf D) (ptsOf_len D).symm) HPT.out (ptsOf_len D).symm o10
      go_wp2_with fail
      refine hsp.mono ?_
      rintro e4 w4 ⟨ga, gc, rfl, o11, k11⟩
      rw [pws_pts, ptsOf_len] at o11
      rw [ptsOf_len]
      obtain ⟨er, her⟩ : ∃ er : Int, (if ptsOf D = [] then (5 : Int) else 0) = er := ⟨_, rfl⟩
      rw [her]
      clear her
      have hQl : (lagSplit t.s (wts D)).length = D.length := by rw [lagSplit_len]; unfold wts; rw [List.length_map]
      generalize lagSplit t.s (wts D) = Q at *
      have HQ := Lib.hid hQl
      have hT : LvLRel b D Q a9 c9 ga gc P R w (.int .i64 0) w4 := ⟨0, rfl, by omega, by rw [List.take_zero, addS_nil]; exact o11.re [1, 3, 0, 2, 4] 1, (k9.trans k10).trans k11⟩
      clear hQl hsp hpc o11 o10 o9 k11 k10 k9
      go_wp2
      go_loopw [10] (fun v wr => LvLRel b D Q a9 c9 ga gc P R w v wr) (fun v _ => D.length - (ivOf v).toNat)
      case atStart => exact hT
      case round =>
        clear hT
        obtain ⟨k, rfl, hk, oR, kR⟩ := hrel
        have c1 := (oR.up 2).cell 0
        by_cases hlt : k < D.length
        · obtain ⟨u, hu⟩ : ∃ u, D[k]? = some u := ⟨_, List.getElem?_eq_getElem hlt⟩
          obtain ⟨q, hq⟩ : ∃ q, Q[k]? = some q := ⟨_, List.getElem?_eq_getElem (by rw [HQ.out]; exact hlt)⟩
          obtain ⟨hg, hset⟩ := addS_step (Q := Q) (q := q) HASC.out.1 hu hq
          obtain ⟨g9, rfl, hcc, hf9, hl9⟩ := oR.slc_cell (by omega)
          have d2 := hcc (k * 3 + 2) _ (flat_get tagC_len _ k 2 u hg (by omega))
          obtain ⟨gg, rfl, hcg, _, _⟩ := (oR.up 1).slc_cell (by omega)
          have e0 := hcg k (.int .i64 q) (by unfold i64s; rw [List.getElem?_map, hq]; rfl)
          have hu2 := HLD.out u (List.mem_of_getElem? hu)
          have hq2 : Go.Proofs.YtjpahfkchhnpoaaGreat.ab q ≤ 8192 * (N : Int) := Int.le_trans (sumI_ab_mem (List.mem_of_getElem? hq)) (Int.le_trans HQA.out.1 HQA.out.2)
          have hw : IntKind.i64.wrap (u.s + q) = u.s + q := by have := HN.out; unfold Go.Proofs.YtjpahfkchhnpoaaGreat.ab at hq2; rw [IntKind.wrap_i64]; omega
          have oS := oR.slc_set (k * 3 + 2) (.int .i64 (u.s + q)) (by rw [flat_length tagC_len, addS_len]; omega)
          rw [← flat_set tagC_len _ k 2 u ⟨u.f, u.w, u.s + q⟩ (.int .i64 (u.s + q)) hg (by omega) rfl, setT_atP (x := ⟨u.f, u.w, u.s + q⟩) (addS_asc HASC.out.2 _) hg rfl, hset] at oS
          clear hcc hcg hg hset hu hq hu2 hq2
          go_wp2
          refine wp_region_tail 12 (by kernel_rfl) (by kernel_rfl) ?_
          simp only [List.take_succ_cons, List.take_zero, List.drop_succ_cons, List.drop_zero]
          repeat still_step
          refine wpStill_nil ?_
          go_wp2
          go_roundw
          case rel => exact ⟨k + 1, by go_num, by omega, oS.drew, ⟨kR.os, kR.tape, kR.output⟩⟩
          case measure => simp [ivOf]; omega
        · have hin : k = D.length := by omega
          subst hin
          rw [List.take_of_length_le (by rw [HQ.out]; omega)] at oR
          go_wp2
          go_ret2
          exact ⟨_, PExtT.add _ _, rfl, led_new (addS_len _ _).symm rfl (oR.re [1, 0, 2, 3] 1), kR⟩
end
end Go.Proofs.YtjpahfkchhnpoaaGreat

/- The reference's ledger: Transfer. -/
namespace Go.Proofs.YtjpahfkchhnpoaaGreat
open Go.RowKit
open SP
section
variable {P W' : SP} {W w w' : World} {R : List SP} {b : Nat} {L : List Tg}
set_option maxHeartbeats 6400000 in
set_option maxRecDepth 100000 in
theorem ledMove_spec {N : Nat} (c s n : Int) (hok : LgOk N L) (hN : (N : Int) ≤ 1000000000000) (o : Own w (LedR P b L :: P :: R)) :
    Calls Tryz.prog 74 #[.pointer (some ⟨b, 0, none⟩), .int .i64 c, .int .i64 s, .int .i64 n] w (LedPost (.int .i64 (nMove L c s n).1) b (nMove L c s n).2 P R w) := by
  have hL := hok.ok.len
  have hat := ledAt_spec c (by omega) o
  have hat2 := ledAt_spec s (by omega) o
  cases hfa : fget L c with
  | none =>
    rw [nMove_none (.inl hfa)]
    rw [idxT_none 0 L hfa] at hat
    obtain ⟨j, hj⟩ : ∃ j, idxT s 0 L = j := ⟨_, rfl⟩
    rw [hj] at hat2
    clear hfa hok hj
    go_enter Tryz.func74, Tryz.ntmps74
    go_wp2_with fail
    refine hat.mono ?_
    rintro e1 w1 ⟨rfl, rfl⟩
    go_wp2_with fail
    refine hat2.mono ?_
    rintro e1 w1 ⟨rfl, rfl⟩
    go_wp2
    go_ret
    exact LedPost.same o ⟨rfl, rfl⟩
  | some a =>
    obtain ⟨i, hi, hai⟩ := idxT_some 0 L hfa
    rw [hai, Nat.zero_add] at hat
    cases hfd : fget L s with
    | none =>
      rw [nMove_none (.inr hfd)]
      rw [idxT_none 0 L hfd] at hat2
      clear hfa hok hfd hi hai
      go_enter Tryz.func74, Tryz.ntmps74
      go_wp2_with fail
      refine hat.mono ?_
      rintro e1 w1 ⟨rfl, rfl⟩
      go_wp2_with fail
      refine hat2.mono ?_
      rintro e1 w1 ⟨rfl, rfl⟩
      go_wp2
      go_ret
      exact LedPost.same o ⟨rfl, rfl⟩
    | some d =>
      obtain ⟨k, hk, hak⟩ := idxT_some 0 L hfd
      rw [hak, Nat.zero_add] at hat2
      rw [nMove_some hfa hfd]
      by_cases hbad : n < 1 ∨ 4096 < n
      · rw [if_pos hbad]
        by_cases h1 : n < 1
        · clear hbad hi hk hai hak
          go_enter Tryz.func74, Tryz.ntmps74
          go_wp2_with fail
          refine hat.mono ?_
          rintro e1 w1 ⟨rfl, rfl⟩
          go_wp2_with fail
          refine hat2.mono ?_
          rintro e1 w1 ⟨rfl, rfl⟩
          go_wp2
          go_ret
          exact LedPost.same o ⟨rfl, rfl⟩
        · have h2 : 4096 < n := by omega
          clear hbad hi hk hai hak
          go_enter Tryz.func74, Tryz.ntmps74
          go_wp2_with fail
          refine hat.mono ?_
          rintro e1 w1 ⟨rfl, rfl⟩
          go_wp2_with fail
          refine hat2.mono ?_
          rintro e1 w1 ⟨rfl, rfl⟩
          go_wp2
          go_ret
          exact LedPost.same o ⟨rfl, rfl⟩
      · rw [if_neg hbad]
        have h1 : ¬ n < 1 := by omega
        have h2 : ¬ 4096 < n := by omega
        clear hbad
        by_cases hcs : c = s
        · rw [if_pos hcs]
          subst hcs
          have hik : k = i := by rw [hai] at hak; omega
          subst hik
          clear hi hk hai hak hfa hfd hok
          go_enter Tryz.func74, Tryz.ntmps74
          go_wp2_with fail
          refine hat.mono ?_
          rintro e1 w1 ⟨rfl, rfl⟩
          go_wp2_with fail
          refine hat2.mono ?_
          rintro e1 w1 ⟨rfl, rfl⟩
          go_wp2
          go_ret
          exact LedPost.same o ⟨rfl, rfl⟩
        · rw [if_neg hcs]
          have hac := (fget_some hfa).2
          have hds := (fget_some hfd).2
          have hik : ((i : Int) == (k : Int)) = false := by
            rw [beq_eq_false_iff_ne]; intro h
            have : i = k := by omega
            subst this
            rw [hi] at hk; cases hk
            exact hcs (hac.symm.trans hds)
          have hikn : i ≠ k := by intro h; subst h; simp at hik
          have hla2 := hok.lag (fget_some hfa).1
          have hld2 := hok.lag (fget_some hfd).1
          obtain ⟨x, hx⟩ : ∃ x, a.s + n = x := ⟨_, rfl⟩
          obtain ⟨y, hy⟩ : ∃ y, d.s - n = y := ⟨_, rfl⟩
          have wx : IntKind.i64.wrap (a.s + n) = x := by rw [IntKind.wrap_i64]; omega
          have wy : IntKind.i64.wrap (d.s - n) = y := by rw [IntKind.wrap_i64]; omega
          rw [hx, hy]
          have hset1 := setT_atP (x := ⟨c, a.w, x⟩) hok.ok.asc hi hac.symm
          have hfs1 := flat_set tagC_len L i 2 a ⟨c, a.w, x⟩ (.int .i64 x) hi (by omega) (by show [_, _, _] = [_, _, _]; rw [← hac])
          have hk2 : (L.set i ⟨c, a.w, x⟩)[k]? = some d := by rw [List.getElem?_set_ne hikn]; exact hk
          have hasc2 : (setT ⟨c, a.w, x⟩ L).Pairwise fun a b => a.f < b.f := by rw [asc_iff, setT_f, ← asc_iff]; exact hok.ok.asc
          rw [← hset1] at hasc2
          have hset2 := setT_atP (x := ⟨s, d.w, y⟩) hasc2 hk2 hds.symm
          have hfs2 := flat_set tagC_len _ k 2 d ⟨s, d.w, y⟩ (.int .i64 y) hk2 (by omega) (by show [_, _, _] = [_, _, _]; rw [← hds])
          have hfg1 := flat_get tagC_len L i 2 a hi (by omega)
          have hfg2 := flat_get tagC_len _ k 2 d hk2 (by omega)
          have HS1 := Lib.hid hset1
          have HS2 := Lib.hid hset2
          have HF1 := Lib.hid hfs1
          have HF2 := Lib.hid hfs2
          have HG1 := Lib.hid hfg1
          have HG2 := Lib.hid hfg2
          obtain ⟨al, cl, ⟨⟨hP, hs⟩, hc⟩, o1⟩ := LedR.iff.1 o
          obtain ⟨g, so, rfl, _, _, d2⟩ := hP _ _ (o1.up 1) i a hi
          obtain ⟨g', so', hgg, _, _, e2⟩ := hP _ _ (o1.up 1) k d hk
          cases hgg
          have c1 := o1.cell 0
          have clt := o1.celLt
          have cf := o1.frozen
          have hil := (List.getElem?_eq_some_iff.1 hi).1
          have hkl := (List.getElem?_eq_some_iff.1 hk).1
          clear hi hk hai hak hfa hfd hok hset1 hset2 hfs1 hfs2 hfg1 hfg2 hk2 hasc2 hac hds hla2 hld2 hx hy
          by_cases A1 : 1099511627776 < x
          · rw [if_pos (.inl A1)]
            have f1 : decide (1099511627776 < x) = true := decide_eq_true A1
            clear A1
            go_enter Tryz.func74, Tryz.ntmps74
            go_wp2_with fail
            refine hat.mono ?_
            rintro e1 w1 ⟨rfl, rfl⟩
            go_wp2_with fail
            refine hat2.mono ?_
            rintro e1 w1 ⟨rfl, rfl⟩
            go_wp2
            go_ret
            exact LedPost.same o ⟨rfl, rfl⟩
          · have f1 : decide (1099511627776 < x) = false := decide_eq_false A1
            by_cases A2 : y < -1099511627776
            · rw [if_pos (.inr (.inr (.inr A2)))]
              have f2 : decide (y < -1099511627776) = true := decide_eq_true A2
              clear A1 A2
              go_enter Tryz.func74, Tryz.ntmps74
              go_wp2_with fail
              refine hat.mono ?_
              rintro e1 w1 ⟨rfl, rfl⟩
              go_wp2_with fail
              refine hat2.mono ?_
              rintro e1 w1 ⟨rfl, rfl⟩
              go_wp2
              go_ret
              exact LedPost.same o ⟨rfl, rfl⟩
            · have f2 : decide (y < -1099511627776) = false := decide_eq_false A2
              by_cases A3 : x < -1099511627776
              · rw [if_pos (.inr (.inr (.inl A3)))]
                have f3 : decide (x < -1099511627776) = true := decide_eq_true A3
                clear A1 A2 A3
                go_enter Tryz.func74, Tryz.ntmps74
                go_wp2_with fail
                refine hat.mono ?_
                rintro e1 w1 ⟨rfl, rfl⟩
                go_wp2_with fail
                refine hat2.mono ?_
                rintro e1 w1 ⟨rfl, rfl⟩
                go_wp2
                go_ret
                exact LedPost.same o ⟨rfl, rfl⟩
              · have f3 : decide (x < -1099511627776) = false := decide_eq_false A3
                by_cases A4 : 1099511627776 < y
                · rw [if_pos (.inr (.inl A4))]
                  have f4 : decide (1099511627776 < y) = true := decide_eq_true A4
                  clear A1 A2 A3 A4
                  go_enter Tryz.func74, Tryz.ntmps74
                  go_wp2_with fail
                  refine hat.mono ?_
                  rintro e1 w1 ⟨rfl, rfl⟩
                  go_wp2_with fail
                  refine hat2.mono ?_
                  rintro e1 w1 ⟨rfl, rfl⟩
                  go_wp2
                  go_ret
                  exact LedPost.same o ⟨rfl, rfl⟩
                · have f4 : decide (1099511627776 < y) = false := decide_eq_false A4
                  rw [if_neg (by omega)]
                  clear A1 A2 A3 A4
                  have oZ := slc_zero (e := 101) (size := 3) ((o1.alloc (.cells #[] 101)))
                  have hsrc := tags_src (c := cl) hP rfl (oZ.up 2)
                  go_enter Tryz.func74, Tryz.ntmps74
                  go_wp2_with fail
                  refine hat.mono ?_
                  rintro e1 w1 ⟨rfl, rfl⟩
                  go_wp2_with fail
                  refine hat2.mono ?_
                  rintro e1 w1 ⟨rfl, rfl⟩
                  go_wp2_with (at_builtin; refine wpList_append_src rfl _ _ rfl Tryz.lineT rfl oZ rfl hsrc (by unfold maxLen; omega) (by omega) ?k1)
                  case k1 =>
                  intro a5 c5 w5 o5 k5
                  have q1 := (o5.up 1).cell 0
                  have ql := (o5.up 1).celLt
                  have qf := (o5.up 1).frozen
                  have oS := ((o5.up 1).setCell 0 (.slice a5 L.length c5))
                  have s1 := oS.cell 0
                  rcases Own.slc.1 (oS.up 1) with ⟨_, hz, _⟩ | ⟨g, sp, rfl, _, hcm, _, _, _⟩
                  · omega
                  · obtain ⟨g', hg', hc', hf', hl'⟩ := (oS.up 1).slc_cell (by omega)
                    cases hg'
                    have z1 := hc' (i * 3 + 2) _ HG1.out
                    have o7 := (oS.up 1).slc_set (i * 3 + 2) (.int .i64 x) (by rw [flat_length tagC_len]; omega)
                    rw [← HF1.out] at o7
                    obtain ⟨g', hg', hc2, hf2, hl2⟩ := o7.slc_cell (by omega)
                    cases hg'
                    have z2 := hc2 (k * 3 + 2) _ HG2.out
                    have s2 := (o7.up 1).cell 0
                    have o8 := o7.slc_set (k * 3 + 2) (.int .i64 y) (by rw [flat_length tagC_len, List.length_set]; omega)
                    rw [← HF2.out, HS2.out, HS1.out] at o8
                    have hlen : L.length = (setT ⟨s, d.w, y⟩ (setT ⟨c, a.w, x⟩ L)).length := by rw [← HS1.out, ← HS2.out, List.length_set, List.length_set]
                    have oE := led_new (L2 := setT ⟨s, d.w, y⟩ (setT ⟨c, a.w, x⟩ L)) hlen rfl o8
                    clear hlen
                    go_wp2
                    go_ret
                    exact ⟨_, PExtT.add _ _, rfl, oE, Calm.trans ⟨k5.os, k5.tape, k5.output⟩ ⟨rfl, rfl, rfl⟩⟩
end
end Go.Proofs.YtjpahfkchhnpoaaGreat

/- The reference of chapter 12 and 13: its lists, plain; New, goodWeight, Index. -/
namespace Go.Proofs.YtjpahfkchhnpoaaGreat
open Go.RowKit
open SP

/-! ### Plain -/
def oldM (f : Int) (O : List Tg) : Int := O.foldl (fun a t => if t.f = f then max a t.s else a) 0
theorem oldM_snoc (f : Int) (O : List Tg) (t : Tg) : oldM f (O ++ [t]) = if t.f = f then max (oldM f O) t.s else oldM f O := by
  unfold oldM; rw [List.foldl_append]; rfl
theorem foldM_ne (f : Int) : ∀ (O : List Tg) (a : Int), (∀ t ∈ O, t.f ≠ f) → O.foldl (fun a t => if t.f = f then max a t.s else a) a = a
  | [], a, _ => rfl
  | t :: O, a, h => by
    rw [List.foldl_cons, if_neg (h t (by simp))]
    exact foldM_ne f O a (fun t ht => h t (by simp [ht]))
theorem foldM_del (f g : Int) (hg : g ≠ f) : ∀ (O : List Tg) (a : Int), (delT f O).foldl (fun a t => if t.f = g then max a t.s else a) a = O.foldl (fun a t => if t.f = g then max a t.s else a) a
  | [], a => rfl
  | t :: O, a => by
    unfold delT
    by_cases h : t.f = f
    · rw [List.filter_cons_of_neg (by simp [h]), List.foldl_cons, if_neg (by rw [h]; exact fun e => hg e.symm)]
      exact foldM_del f g hg O a
    · rw [List.filter_cons_of_pos (by simp [h]), List.foldl_cons, List.foldl_cons]
      exact foldM_del f g hg O _
theorem oldM_del (f g : Int) (O : List Tg) : oldM g (delT f O) = if g = f then 0 else oldM g O := by
  split
  · rename_i h
    subst h
    exact foldM_ne _ _ _ (fun t ht => (mem_delT.1 ht).2)
  · rename_i h
    exact foldM_del f g h O 0
def lowO (by_ : Int) (t : Tg) : Tg := ⟨t.f, t.w, max (t.s - by_) 0⟩
theorem foldM_low (f by_ : Int) (h0 : 0 ≤ by_) : ∀ (O : List Tg) (a : Int), (O.map (lowO by_)).foldl (fun a t => if t.f = f then max a t.s else a) (max (a - by_) 0) = max (O.foldl (fun a t => if t.f = f then max a t.s else a) a - by_) 0
  | [], a => rfl
  | t :: O, a => by
    rw [List.map_cons, List.foldl_cons, List.foldl_cons]
    have e : (if (lowO by_ t).f = f then max (max (a - by_) 0) (lowO by_ t).s else max (a - by_) 0) = max ((if t.f = f then max a t.s else a) - by_) 0 := by
      show (if t.f = f then max (max (a - by_) 0) (max (t.s - by_) 0) else max (a - by_) 0) = _
      split <;> omega
    rw [e]
    exact foldM_low f by_ h0 O _
theorem oldM_low (f by_ : Int) (h0 : 0 ≤ by_) (O : List Tg) : oldM f (O.map (lowO by_)) = max (oldM f O - by_) 0 := by
  have := foldM_low f by_ h0 O 0
  rw [show max ((0 : Int) - by_) 0 = 0 from by omega] at this
  exact this
/-- The lists of the reference say what the state says. -/
structure R12 (S : St) (O : List Tg) : Prop where
  old : ∀ f, oldM f O = S.old f
  act : ∀ t ∈ S.L, S.old t.f = 0
  rng : ∀ t ∈ O, 0 ≤ t.s ∧ t.s ≤ 1099511627776
theorem R12.start : R12 ⟨[], fun _ => 0, 0, 0⟩ [] := ⟨fun _ => rfl, fun t ht => by simp at ht, fun t ht => by simp at ht⟩

/-! ### The block; the lists lie in a pool -/
def RefT (P : SP) (b : Nat) (at_ : Int) (L O : List Tg) (now aw : Int) : SP := ex fun (p : (Option Addr × Nat) × Option Addr × Nat) =>
  st [pu ((TagsAt P p.1.1 L ∧ SlOk p.1.1 p.1.2) ∧ L.length ≤ p.1.2 ∧ (TagsAt P p.2.1 O ∧ SlOk p.2.1 p.2.2) ∧ O.length ≤ p.2.2), cel b 46 [.int .i64 at_, .slice p.1.1 L.length p.1.2, .slice p.2.1 O.length p.2.2, .int .i64 now, .int .i64 aw]]
section
variable {P W' : SP} {W w w' : World} {R : List SP} {b : Nat} {at_ now aw : Int} {L O : List Tg}
theorem RefT.iff : Own w (RefT P b at_ L O now aw :: R) ↔ ∃ a c a2 c2, ((TagsAt P a L ∧ SlOk a c) ∧ L.length ≤ c ∧ (TagsAt P a2 O ∧ SlOk a2 c2) ∧ O.length ≤ c2) ∧ Own w (cel b 46 [.int .i64 at_, .slice a L.length c, .slice a2 O.length c2, .int .i64 now, .int .i64 aw] :: R) := by
  constructor
  · intro o
    obtain ⟨⟨⟨a, c⟩, a2, c2⟩, h⟩ := Own.ex.1 o
    obtain ⟨h1, h2⟩ := Own.pu.1 (Own.st.1 h)
    exact ⟨a, c, a2, c2, h1, h2⟩
  · rintro ⟨a, c, a2, c2, h1, h2⟩
    exact Own.ex.2 ⟨((a, c), a2, c2), Own.st.2 (Own.pu.2 ⟨h1, h2⟩)⟩
theorem RefT.mono {P' : SP} (h : PExtT P P') (o : Own w (RefT P b at_ L O now aw :: R)) : Own w (RefT P' b at_ L O now aw :: R) := by
  obtain ⟨a, c, a2, c2, ⟨h1, h2, h3, h4⟩, h5⟩ := RefT.iff.1 o
  exact RefT.iff.2 ⟨a, c, a2, c2, ⟨⟨h _ _ h1.1, h1.2⟩, h2, ⟨h _ _ h3.1, h3.2⟩, h4⟩, h5⟩
set_option maxHeartbeats 800000 in
theorem refNew12_spec (r : Int) (h1 : 1 ≤ r) (h2 : r ≤ 1099511627776) (o : Own w R) :
    Calls Tryz.prog 21 #[.int .i64 r] w fun e w' => ∃ b, Ret (.tuple #[.pointer (some ⟨b, 0, none⟩), .int .i64 0]) (RefT P b r [] [] 0 0 :: R) w e w' := by
  have o1 := o.alloc (.cells #[.int .i64 r, .slice none 0 0, .slice none 0 0, .int .i64 0, .int .i64 0] 46)
  go_enter Tryz.func21, Tryz.ntmps21
  go_wp2
  go_ret2
  exact ⟨_, rfl, RefT.iff.2 ⟨none, 0, none, 0, ⟨⟨tagsAt_nil _ _, .inl ⟨rfl, rfl⟩⟩, Nat.le_refl _, ⟨tagsAt_nil _ _, .inl ⟨rfl, rfl⟩⟩, Nat.le_refl _⟩, o1⟩, ⟨rfl, rfl, rfl⟩⟩
theorem goodW_spec (x : Int) (w : World) : Calls Tryz.prog 78 #[.int .i64 x] w (IsRet (.bool (decide (1 ≤ x ∧ x ≤ 16))) w) := by
  by_cases h1 : 1 ≤ x
  · have e : decide (1 ≤ x ∧ x ≤ 16) = decide (x ≤ 16) := by simp [h1]
    rw [e]; clear e
    go_enter Tryz.func78, Tryz.ntmps78
    go_wp2
    go_ret
    exact ⟨rfl, rfl⟩
  · have e : decide (1 ≤ x ∧ x ≤ 16) = false := by simp [h1]
    rw [e]; clear e
    go_enter Tryz.func78, Tryz.ntmps78
    go_wp2
    go_ret
    exact ⟨rfl, rfl⟩
def IdxRel (L : List Tg) (f T : Int) (w : World) (v : Value) (wr : World) : Prop := ∃ i : Nat, v = .int .i64 (i : Int) ∧ i ≤ L.length ∧ idxT f i (L.drop i) = T ∧ wr = w
set_option maxHeartbeats 800000 in
set_option maxRecDepth 100000 in
theorem index_spec (f : Int) (hL : L.length ≤ 1000) (o : Own w (RefT P b at_ L O now aw :: P :: R)) :
    Calls Tryz.prog 70 #[.pointer (some ⟨b, 0, none⟩), .int .i64 f] w (IsRet (.int .i64 (idxT f 0 L)) w) := by
  obtain ⟨a, c, a2, c2, ⟨⟨hP, -⟩, hc, -, -⟩, o1⟩ := RefT.iff.1 o
  have c1 := o1.cell 1
  have hT : IdxRel L f (idxT f 0 L) w (.int .i64 0) w := ⟨0, rfl, by omega, rfl, rfl⟩
  generalize idxT f 0 L = T at *
  generalize hn : L.length = n at *
  have Hn := Lib.hid hn
  clear hn
  go_enter Tryz.func70, Tryz.ntmps70
  go_wp2
  go_loopw [5] (fun v wr => IdxRel L f T w v wr) (fun v _ => n - (intOf v).toNat)
  case atStart => exact hT
  case round =>
    clear hT
    obtain ⟨i, rfl, hi, hE, rfl⟩ := hrel
    rw [Hn.out] at hi
    have HT := Lib.hid hE
    clear hE
    by_cases hlt : i < n
    · obtain ⟨⟨x, y, z⟩, hx⟩ : ∃ x, L[i]? = some x := ⟨_, List.getElem?_eq_getElem (by rw [Hn.out]; exact hlt)⟩
      obtain ⟨g, so, hg, d0, d1, d2⟩ := hP _ _ (o1.up 1) i _ hx
      subst hg
      have HD := Lib.hid (drop_cons hx)
      clear hx
      dsimp only at d0 d1 d2
      by_cases he : x = f
      · subst he
        go_wp2
        go_ret
        refine ⟨?_, rfl⟩
        rw [← HT.out, HD.out, idxT, if_pos rfl]; rfl
      · have heb : (x == f) = false := by simpa using he
        go_wp2
        go_roundw
        case rel => exact ⟨i + 1, by go_num, by rw [Hn.out]; omega, by rw [← HT.out, HD.out, idxT, if_neg he], rfl⟩
        case measure => simp [intOf]; omega
    · go_wp2
      go_ret
      refine ⟨?_, rfl⟩
      rw [← HT.out, List.drop_eq_nil_of_le (by rw [Hn.out]; omega)]; rfl
end
end Go.Proofs.YtjpahfkchhnpoaaGreat

/- The copies: the reference's, the program's; the program's SetWeight and Rebased. -/
namespace Go.Proofs.YtjpahfkchhnpoaaGreat
open Go.RowKit
open SP
section
variable {P : SP} {W w w' : World} {R : List SP} {b : Nat} {at_ now aw reb : Int} {L O : List Tg} {S : St}
set_option maxHeartbeats 1600000 in
set_option maxRecDepth 100000 in
theorem copyT_spec (o : Own w (RefT P b at_ L O now aw :: R)) :
    Calls Tryz.prog 97 #[.pointer (some ⟨b, 0, none⟩)] w fun e w' => ∃ p, Ret (.pointer (some ⟨p, 0, none⟩)) (RefT P p at_ L O now aw :: RefT P b at_ L O now aw :: R) w e w' := by
  obtain ⟨a, c, a2, c2, hP, o1⟩ := RefT.iff.1 o
  have c0 := o1.cell 0
  have c1 := o1.cell 1
  have c2' := o1.cell 2
  have c3 := o1.cell 3
  have c4 := o1.cell 4
  have hlt := o1.celLt
  have oN := o.alloc (.cells #[.int .i64 at_, .slice a L.length c, .slice a2 O.length c2, .int .i64 now, .int .i64 aw] 46)
  go_enter Tryz.func97, Tryz.ntmps97
  go_wp2
  go_ret
  exact ⟨w.heap.size, rfl, RefT.iff.2 ⟨a, c, a2, c2, hP, oN⟩, ⟨rfl, rfl, rfl⟩⟩
theorem sfqRebased_spec (o : Own w (SfqR b reb S :: R)) : Calls Tryz.prog 37 #[.pointer (some ⟨b, 0, none⟩)] w (IsRet (.int .i64 S.aw) w) := by
  obtain ⟨ab, rb, m, rem, hm, hold, hur, hok, o1⟩ := SfqR.iff.1 o
  have c4 := o1.cell 4
  clear hold
  go_enter Tryz.func37, Tryz.ntmps37
  go_wp2
  go_ret
  exact ⟨rfl, rfl⟩
end
section
variable {f : Tg → Value} {w w' : World} {R : List SP} {mb : Nat} {m : List (Int × Tg)}
set_option maxHeartbeats 1600000 in
set_option maxRecDepth 100000 in
theorem cloneT_spec (o : Own w (mpI f mb m :: R)) : Calls Tryz.prog 87 #[.map (some mb)] w (ClonePost f mb m R w) := by
  obtain ⟨es, clock, h1, h2, h3, o1⟩ := Own.mpI.1 o
  have hb := o1.blk
  have hq := fun w => run_eql_map_nil_sl (P := Tryz.prog) w 106 _ _ (some mb) Tryz.underlying106
  have hfin : Own (w.alloc (.map es clock)) (mpI f w.heap.size m :: mpI f mb m :: R) := Own.mpI.2 ⟨es, clock, h1, h2, h3, o.alloc _⟩
  go_enter Tryz.func87, Tryz.ntmps87
  go_wp2
  rw [run_callFunc_extern Tryz.func114 (by kernel_rfl) (by kernel_rfl) (by kernel_rfl) (e := Extern.MapsClone.clone) (by kernel_rfl), run_maps_clone_sl w _ hb]
  simp only [Result.andThen]
  rw [Oper.upon_value]
  go_wp2
  rw [run_typeAssert_map_sl _ 106 _ _ _ _ Tryz.underlying106]
  simp only [Result.andThen]
  rw [Oper.upon_value]
  go_wp2
  go_ret
  exact ⟨rfl, hfin, ⟨rfl, rfl, rfl⟩⟩
end
end Go.Proofs.YtjpahfkchhnpoaaGreat

/- The program's SetWeight and Copy. -/
namespace Go.Proofs.YtjpahfkchhnpoaaGreat
open Go.RowKit
open SP
section
variable {W w w' : World} {R : List SP} {b : Nat} {reb : Int} {S : St}
def setWR (S : St) (f wt : Int) : Int × St := match fget S.L f with
  | none => (6, S)
  | some t => if wt < 1 ∨ 16 < wt then (1, S) else (0, { S with L := setT ⟨t.f, wt, t.s⟩ S.L })
set_option maxHeartbeats 3200000 in
set_option maxRecDepth 100000 in
theorem sfqSetW_spec (f wt : Int) (o : Own w (SfqR b reb S :: R)) :
    Calls Tryz.prog 51 #[.pointer (some ⟨b, 0, none⟩), .int .i64 f, .int .i64 wt] w (Ret (.int .i64 (setWR S f wt).1) (SfqR b reb (setWR S f wt).2 :: R) w) := by
  obtain ⟨ab, rb, m, rem, hm, hold, hur, hok, o1⟩ := SfqR.iff.1 o
  have Hold := Lib.hid hold
  have c1 := o1.cell 1
  have hbl := o1.celLt
  clear hold
  unfold setWR
  cases hf : fget S.L f with
  | none =>
    have hlk := lookT_none (o1.up 1) hm hf
    dsimp only
    clear hf hm
    go_enter Tryz.func51, Tryz.ntmps51
    go_wp2
    go_ret
    exact ⟨rfl, o.more _, ⟨rfl, rfl, rfl⟩⟩
  | some t =>
    have hlk := lookT_some (o1.up 1) hm hf
    obtain ⟨htm, htf⟩ := fget_some hf
    obtain ⟨x, y, z⟩ := t
    dsimp only at htf hlk ⊢
    subst htf
    have htr := hok.ok.rng _ htm
    dsimp only at htr
    by_cases hb : wt < 1 ∨ 16 < wt
    · rw [if_pos hb]
      rcases hb with hb | hb
      · clear hf hm
        go_enter Tryz.func51, Tryz.ntmps51
        go_wp2
        go_ret
        exact ⟨rfl, o.more _, ⟨rfl, rfl, rfl⟩⟩
      · have hb2 : ¬ wt < 1 := by omega
        clear hf hm
        go_enter Tryz.func51, Tryz.ntmps51
        go_wp2
        go_ret
        exact ⟨rfl, o.more _, ⟨rfl, rfl, rfl⟩⟩
    · rw [if_neg hb]
      have b1 : ¬ wt < 1 := by omega
      have b2 : ¬ 16 < wt := by omega
      have hrep : Rep (mput m x ⟨x, wt, z⟩) (setT ⟨x, wt, z⟩ S.L) := by
        have := hm.set (x := ⟨x, wt, z⟩) (by rw [hf]; simp) ⟨htr.1, htr.2.1, by show 1 ≤ wt; omega, by show wt ≤ 16; omega, htr.2.2.2.2.1, htr.2.2.2.2.2⟩
        exact this
      have hok2 : StOk { S with L := setT ⟨x, wt, z⟩ S.L } := ⟨hok.ok.set (x := ⟨x, wt, z⟩) ⟨htr.1, htr.2.1, by show 1 ≤ wt; omega, by show wt ≤ 16; omega, htr.2.2.2.2.1, htr.2.2.2.2.2⟩, hok.old, hok.tm⟩
      have oM := o1.alloc (.cells #[.int .i64 x, .int .i64 wt, .int .i64 z] 94)
      clear hf hm hb
      go_enter Tryz.func51, Tryz.ntmps51
      go_wp2
      refine wp_region_tail 6 (by kernel_rfl) (by kernel_rfl) ?_
      simp only [List.take_succ_cons, List.take_zero, List.drop_succ_cons, List.drop_zero]
      repeat still_step
      refine wpStill_nil ?_
      go_wp2_with (at_mapUpdate; refine wpList_mapUpdate_mpI (f := tagV) rfl _ _ _ rfl Tryz.underlying106 Tryz.underlying3 ((oM.up 2).drew) x ⟨x, wt, z⟩ rfl rfl rfl ?c1)
      case c1 =>
      intro w3 o3 k3
      go_wp2
      go_ret
      have oE : Own w3 (SfqR b reb { S with L := setT ⟨x, wt, z⟩ S.L } :: R) := SfqR.iff.2 ⟨ab, rb, _, rem, hrep, Hold.out, hur, hok2, o3.re [1, 2, 0, 3] 1⟩
      exact ⟨rfl, oE, ⟨k3.os, k3.tape, k3.output⟩⟩
end
end Go.Proofs.YtjpahfkchhnpoaaGreat

/- The program's copy. -/
namespace Go.Proofs.YtjpahfkchhnpoaaGreat
open Go.RowKit
open SP
section
variable {W w w' : World} {R : List SP} {b : Nat} {reb : Int} {S : St}
def CopyS (b : Nat) (reb : Int) (S : St) (R : List SP) (w : World) (e : Ending) (w' : World) : Prop :=
  ∃ p, Ret (.pointer (some ⟨p, 0, none⟩)) (SfqR p reb S :: SfqR b reb S :: R) w e w'
set_option maxHeartbeats 3200000 in
set_option maxRecDepth 100000 in
theorem sfqCopy_spec (o : Own w (SfqR b reb S :: R)) : Calls Tryz.prog 57 #[.pointer (some ⟨b, 0, none⟩)] w (CopyS b reb S R w) := by
  obtain ⟨ab, rb, m, rem, hm, hold, hur, hok, o1⟩ := SfqR.iff.1 o
  obtain ⟨tm, htm⟩ : ∃ x, x = S.tm := ⟨_, rfl⟩
  obtain ⟨aw, haw⟩ : ∃ x, x = S.aw := ⟨_, rfl⟩
  rw [← htm, ← haw] at o1
  have Hold := Lib.hid hold
  have Hok := Lib.hid hok
  have Hm := Lib.hid hm
  have Htm := Lib.hid htm
  have Haw := Lib.hid haw
  clear hold hok hm htm haw
  have c0 := o1.cell 0
  have c1 := o1.cell 1
  have c2 := o1.cell 2
  have c3 := o1.cell 3
  have c4 := o1.cell 4
  have hlt := o1.celLt
  have oA := o1.alloc (.cells #[.int .i64 reb, .map (some ab), .map (some rb), .int .i64 tm, .int .i64 aw] 109)
  have oAd : Own (w.alloc (.cells #[.int .i64 reb, .map (some ab), .map (some rb), .int .i64 tm, .int .i64 aw] 109)).drew (mpI tagV ab m :: cel w.heap.size 109 [.int .i64 reb, .map (some ab), .map (some rb), .int .i64 tm, .int .i64 aw] :: cel b 109 [.int .i64 reb, .map (some ab), .map (some rb), .int .i64 tm, .int .i64 aw] :: mpI (Value.int .i64) rb rem :: R) := oA.drew.re [2, 0, 1, 3]
  have hsz : (w.alloc (.cells #[.int .i64 reb, .map (some ab), .map (some rb), .int .i64 tm, .int .i64 aw] 109)).drew.heap.size = w.heap.size + 1 := by simp
  have HSZ := Lib.hid hsz
  clear hsz
  have q0 := (oA.up 1).cell 1
  have q1 := (oA.up 1).cell 2
  go_enter Tryz.func57, Tryz.ntmps57
  go_wp2
  go_region_held3 (fun w' => w'.cell? ⟨b, 1, none⟩ = some (.map (some ab)) ∧ w'.cell? ⟨b, 2, none⟩ = some (.map (some rb))) (go_keep) (first
    | (go_at_call 87; (with_reducible refine (cloneT_spec oAd).mono ?_); rintro e2 w2 ⟨rfl, o2, k2⟩; rw [HSZ.out] at o2; have x1 := (o2.up 3).cell 1; have x2 := (o2.up 3).cell 2; have o2b := o2.re [4, 0, 1, 2, 3])
    | (go_at_call 88; (with_reducible refine (cloneIL_spec o2b).mono ?_); rintro e3 w3 ⟨rfl, o3, k3⟩; have y1 := (o3.up 5).cell 1; have y2 := (o3.up 5).cell 2; have z1 := (o3.up 4).cell 1; have z2 := (o3.up 4).cell 2; have zf := (o3.up 4).frozen; have zl := (o3.up 4).celLt; have oS := (o3.up 4).setCell 1 (.map (some (w.heap.size + 1))); have s1 := (oS.up 5).cell 1; have s2 := (oS.up 5).cell 2; have s3 := oS.cell 2; have sf := oS.frozen; have sl := oS.celLt; have oS2 := oS.setCell 2 (.map (some w2.heap.size)); have t1 := (oS2.up 5).cell 1; have t2 := (oS2.up 5).cell 2))
  go_wp2
  go_ret
  have K := Calm.trans k2 k3
  refine ⟨w.heap.size, rfl, ?_, ⟨K.os, K.tape, K.output⟩⟩
  rw [Htm.out, Haw.out] at oS2
  have oX := oS2.re [5, 4, 2, 0, 3, 1]
  have oY : Own _ (SfqR b reb S :: cel w.heap.size 109 [.int .i64 reb, .map (some (w.heap.size + 1)), .map (some w2.heap.size), .int .i64 S.tm, .int .i64 S.aw] :: mpI tagV (w.heap.size + 1) m :: mpI (Value.int .i64) w2.heap.size rem :: R) := SfqR.iff.2 ⟨ab, rb, m, rem, Hm.out, Hold.out, hur, Hok.out, oX⟩
  exact SfqR.iff.2 ⟨_, _, m, rem, Hm.out, Hold.out, hur, Hok.out, oY.re [1, 2, 3, 0]⟩
end
end Go.Proofs.YtjpahfkchhnpoaaGreat

/- The reference of chapter 13: Join. -/
namespace Go.Proofs.YtjpahfkchhnpoaaGreat
open Go.RowKit
open SP

section
variable {P : SP} {W w w' : World} {R : List SP} {b : Nat} {at_ now aw : Int} {L O : List Tg}
def JR1 (P : SP) (b xb : Nat) (f wt : Int) (at_ : Int) (L O : List Tg) (now aw : Int) (R : List SP) (w : World) (v8 v9 : Value) (wr : World) : Prop :=
  ∃ (i : Nat) (a : Option Addr) (c : Nat), v8 = .slice a (delT f (O.take i)).length c ∧ v9 = .int .i64 (i : Int) ∧ i ≤ O.length ∧
    Own wr (slc 94 3 a (delT f (O.take i)).length c (flat tagC (delT f (O.take i))) :: cel xb 94 [.int .i64 f, .int .i64 wt, .int .i64 (max now (oldM f (O.take i)))] :: RefT P b at_ L O now aw :: P :: R) ∧ Calm w wr
def JR2 (P : SP) (b xb : Nat) (x : Tg) (at_ : Int) (L O2 : List Tg) (a8 : Option Addr) (c8 : Nat) (a : Option Addr) (c : Nat) (now aw : Int) (R : List SP) (w : World) (fin : Bool) (v10 : Value) (wr : World) : Prop :=
  ∃ (k : Nat), v10 = .int .i64 (k : Int) ∧ k ≤ L.length ∧ (∀ (j : Nat) (t : Tg), j < k → L[j]? = some t → t.f < x.f) ∧ (fin = true → ∀ t : Tg, L[k]? = some t → ¬ t.f < x.f) ∧
    Own wr (cel b 46 [.int .i64 at_, .slice a L.length c, .slice a8 O2.length c8, .int .i64 now, .int .i64 aw] :: slc 94 3 a8 O2.length c8 (flat tagC O2) :: cel xb 94 [.int .i64 x.f, .int .i64 x.w, .int .i64 x.s] :: P :: R) ∧ Calm w wr
def JoinT (b : Nat) (at_ : Int) (L O : List Tg) (now aw : Int) (P : SP) (R : List SP) (w : World) (e : Ending) (w' : World) : Prop :=
  ∃ P', PExtT P P' ∧ Ret (.int .i64 0) (RefT P' b at_ L O now aw :: P' :: R) w e w'
theorem joinT_end {P : SP} {w8 : World} {R : List SP} {b xb nb : Nat} {at_ now aw : Int} {L2 O2 : List Tg} {a8 a9 a0 : Option Addr} {n9 c8 c9 n0 c0 : Nat} {v0 v1 v2 : Value} {es : List Value} {xs : List Value} (hL2 : xs = flat tagC L2) (hn : n9 = L2.length)
    (o : Own w8 (slc 94 3 a9 n9 c9 xs :: SP.blk nb (.cells es.toArray 94 (0, 0)) :: cel b 46 [.int .i64 at_, .slice a0 n0 c0, .slice a8 O2.length c8, .int .i64 now, .int .i64 aw] :: slc 94 3 a8 O2.length c8 (flat tagC O2) :: cel xb 94 [v0, v1, v2] :: P :: R)) :
    Own (w8.setCell ⟨b, 1, none⟩ (.slice a9 n9 c9)) (RefT (st [slc 94 3 a9 n9 c9 xs, st [slc 94 3 a8 O2.length c8 (flat tagC O2), P]]) b at_ L2 O2 now aw :: st [slc 94 3 a9 n9 c9 xs, st [slc 94 3 a8 O2.length c8 (flat tagC O2), P]] :: R) := by
  subst hL2
  subst hn
  have h1 := slOk_slc o
  have h2 := slOk_slc (o.up 3)
  have n1 := o.slc_len.2.1
  have n2 := (o.up 3).slc_len.2.1
  have oA := ((o.up 2).setCell 1 (.slice a9 L2.length c9)).re [2, 4, 1, 3, 5, 0] 2
  have oB : Own (w8.setCell ⟨b, 1, none⟩ (.slice a9 L2.length c9)) (st [slc 94 3 a8 O2.length c8 (flat tagC O2), P] :: _) := Own.st.2 (oA.re [1, 2, 0, 3])
  have oC : Own (w8.setCell ⟨b, 1, none⟩ (.slice a9 L2.length c9)) (st [slc 94 3 a9 L2.length c9 (flat tagC L2), st [slc 94 3 a8 O2.length c8 (flat tagC O2), P]] :: _) := Own.st.2 (oB.re [1, 0, 2])
  exact RefT.iff.2 ⟨a9, c9, a8, c8, ⟨⟨(tagsAt_slc _ _ _ _ rfl).new, h1⟩, n1, ⟨PExtT.add _ _ _ _ (tagsAt_slc _ _ _ _ rfl).new, h2⟩, n2⟩, oC.swap⟩
set_option maxHeartbeats 6400000 in
set_option maxRecDepth 100000 in
theorem joinT_spec (f wt : Int) (hf : 0 ≤ f ∧ f < 32) (hw : 1 ≤ wt ∧ wt ≤ 16) (hn : fget L f = none) (hL : L.length ≤ 1000) (hO : O.length ≤ 1000) (hr : ∀ t ∈ O, 0 ≤ t.s ∧ t.s ≤ 1099511627776) (h0 : 0 ≤ now ∧ now ≤ 1099511627776) (o : Own w (RefT P b at_ L O now aw :: P :: R)) :
    Calls Tryz.prog 41 #[.pointer (some ⟨b, 0, none⟩), .int .i64 f, .int .i64 wt] w (JoinT b at_ (insT ⟨f, wt, max now (oldM f O)⟩ L) (delT f O) now aw P R w) := by
  have hat := index_spec f hL o
  rw [idxT_none 0 L hn] at hat
  have hgw := goodW_spec wt w
  have hdw : decide (1 ≤ wt ∧ wt ≤ 16) = true := by simp; exact hw
  rw [hdw] at hgw
  obtain ⟨a, c, a2, c2, ⟨⟨hP1, hs1⟩, hc1, ⟨hP2, hs2⟩, hc2⟩, o1⟩ := RefT.iff.1 o
  have d3 := o1.cell 3
  have hlt := o1.celLt
  obtain ⟨hf0, hf1⟩ := hf
  clear hdw hn hw
  have hT : JR1 P b w.heap.size f wt at_ L O now aw R w (.slice none 0 0) (.int .i64 0) (w.alloc (.cells #[.int .i64 f, .int .i64 wt, .int .i64 now] 94)) :=
    ⟨0, none, 0, rfl, rfl, by omega, by
      have := (o.alloc (.cells #[.int .i64 f, .int .i64 wt, .int .i64 now] 94)).slc_nil (e := 94) (size := 3)
      have e : max now (oldM f (O.take 0)) = now := by show max now 0 = now; omega
      rw [e]; exact this, ⟨rfl, rfl, rfl⟩⟩
  go_enter Tryz.func41, Tryz.ntmps41
  go_wp2_with fail
  refine hgw.mono ?_
  rintro e1 w1 ⟨rfl, rfl⟩
  go_wp2_with fail
  refine hat.mono ?_
  rintro e2 w2 ⟨rfl, rfl⟩
  go_wp2
  go_loopw [8, 9] (fun v8 v9 wr => JR1 P b w.heap.size f wt at_ L O now aw R w v8 v9 wr) (fun _ v9 _ => O.length - (intOf v9).toNat)
  case atStart => exact hT
  case round =>
    clear hT hgw hat d3 o1 o
    obtain ⟨i, a8, c8, rfl, rfl, hi, oR, kR⟩ := hrel
    obtain ⟨a, c, a2, c2, ⟨⟨hP1, hs1⟩, hc1, ⟨hP2, hs2⟩, hc2⟩, o1⟩ := RefT.iff.1 (oR.up 2)
    have e1 := o1.cell 1
    have e2 := o1.cell 2
    have el := o1.celLt
    have ef := o1.frozen
    have x0 := (o1.up 2).cell 0
    have x1 := (o1.up 2).cell 1
    have x2 := (o1.up 2).cell 2
    have xl := (o1.up 2).celLt
    have xf := (o1.up 2).frozen
    by_cases hio : i < O.length
    · obtain ⟨⟨y0, y1, y2⟩, hy⟩ : ∃ y, O[i]? = some y := ⟨_, List.getElem?_eq_getElem hio⟩
      obtain ⟨g, so, hg, d0, d1, d2⟩ := hP2 _ _ (o1.up 3) i _ hy
      subst hg
      dsimp only at d0 d1 d2
      have hts := take_snoc hy
      have HTS := Lib.hid hts
      clear hts hy
      by_cases he : y0 = f
      · subst he
        have hmx : max (max now (oldM y0 (O.take i))) y2 = max now (oldM y0 (O.take (i + 1))) := by
          rw [HTS.out, oldM_snoc, if_pos rfl]
          show max (max now _) y2 = max now (max _ y2)
          omega
        have hdl : delT y0 (O.take (i + 1)) = delT y0 (O.take i) := by rw [HTS.out, delT_snoc, if_pos rfl]
        have HDL := Lib.hid hdl
        clear hdl
        go_wp2
        refine wp_region_tail 10 (by kernel_rfl) (by kernel_rfl) ?_
        simp only [List.take_succ_cons, List.take_zero, List.drop_succ_cons, List.drop_zero]
        repeat still_step
        refine wpStill_nil ?_
        go_wp2
        go_roundw
        case rel =>
          refine ⟨i + 1, a8, c8, by rw [HDL.out], by go_num, by omega, ?_, kR.trans ⟨rfl, rfl, rfl⟩⟩
          rw [HDL.out, ← hmx]
          have oX := ((oR.drew.up 1).setCell 2 (.int .i64 (max (max now (oldM y0 (O.take i))) y2))).swap
          exact oX
        case measure => simp [intOf]; omega
      · have heb : (y0 == f) = false := by simpa using he
        have hdl : delT f (O.take (i + 1)) = delT f (O.take i) ++ [⟨y0, y1, y2⟩] := by rw [HTS.out, delT_snoc, if_neg he]
        have hom : oldM f (O.take (i + 1)) = oldM f (O.take i) := by rw [HTS.out, oldM_snoc, if_neg he]
        have hdn : (delT f (O.take i)).length ≤ 1000 := by have := delT_len f (O.take i); rw [List.length_take] at this; omega
        have HDL := Lib.hid hdl
        have HOM := Lib.hid hom
        clear hdl hom
        obtain ⟨Dl, hDl⟩ : ∃ Dl, Dl = delT f (O.take i) := ⟨_, rfl⟩
        rw [← hDl] at oR hdn
        have HDl := Lib.hid hDl
        rw [← hDl]
        clear hDl
        have oN := (oR.alloc (.cells #[.int .i64 y0, .int .i64 y1, .int .i64 y2] 94)).re [1, 0, 2, 3, 4]
        have hnw := Own.news (T := 94) (vs := [.int .i64 y0, .int .i64 y1, .int .i64 y2]) (oR.alloc _)
        go_wp2_with (at_builtin; refine wpList_append_slc rfl _ _ rfl Tryz.tagT rfl oN ⟨wr.heap.size, 0, none⟩ 1 1 [.int .i64 y0, .int .i64 y1, .int .i64 y2] rfl rfl hnw (by intro u hu; simp at hu; rcases hu with rfl | rfl | rfl <;> rfl) (by unfold maxLen; omega) (by omega) ?k2)
        case k2 =>
        intro a7 c7 w7 o7 k7
        have hfl : flat tagC (delT f (O.take (i + 1))) = flat tagC Dl ++ [.int .i64 y0, .int .i64 y1, .int .i64 y2] := by rw [HDL.out, ← HDl.out, flat_append]; rfl
        have hln : (delT f (O.take (i + 1))).length = Dl.length + 1 := by rw [HDL.out, ← HDl.out, List.length_append, List.length_singleton]
        have HFL := Lib.hid hfl
        have HLN := Lib.hid hln
        clear hfl hln
        go_wp2
        go_roundw
        case rel => exact ⟨i + 1, a7, c7, by rw [HLN.out], by go_num, by omega, by rw [HLN.out, HFL.out, HOM.out]; exact o7.re [1, 0, 2, 3, 4] 1, kR.trans k7.al⟩
        case measure => simp [intOf]; omega
    · obtain rfl : i = O.length := by omega
      rw [List.take_length] at oR o1 x2
      obtain ⟨O2, hO2⟩ : ∃ O2, O2 = delT f O := ⟨_, rfl⟩
      obtain ⟨xs, hxs⟩ : ∃ xs, xs = max now (oldM f O) := ⟨_, rfl⟩
      have hO2l : O2.length ≤ 1000 := by have := delT_len f O; rw [hO2]; omega
      rw [List.take_length, ← hO2, ← hxs]
      rw [← hO2, ← hxs] at o1
      rw [← hxs] at x2
      have HO2 := Lib.hid hO2
      have HXS := Lib.hid hxs
      clear hO2 hxs oR
      have oB : Own (wr.setCell ⟨b, 2, none⟩ (.slice a8 O2.length c8)) (cel b 46 [.int .i64 at_, .slice a L.length c, .slice a8 O2.length c8, .int .i64 now, .int .i64 aw] :: _) := o1.setCell 2 (.slice a8 O2.length c8)
      have kB : Calm w (wr.setCell ⟨b, 2, none⟩ (.slice a8 O2.length c8)) := kR.trans ⟨rfl, rfl, rfl⟩
      clear o1
      go_upto_block 2 with fail
      go_cut [10] (fun v10 wc => JR2 P b w.heap.size ⟨f, wt, xs⟩ at_ L O2 a8 c8 a c now aw R w true v10 wc)
      case first =>
        go_wp2
        go_loopw [10] (fun v10 wc => JR2 P b w.heap.size ⟨f, wt, xs⟩ at_ L O2 a8 c8 a c now aw R w false v10 wc) (fun v _ => L.length - (intOf v).toNat)
        case atStart => exact ⟨0, rfl, by omega, fun j t hj => by omega, fun h => (by cases h), oB, kB⟩
        case round =>
          clear oB kB e1 e2 el ef x0 x1 x2 xl xf hP2 hs2 hc2
          obtain ⟨k, rfl, hk, hlk, -, oK, kK⟩ := hrel
          have e1 := oK.cell 1
          by_cases hkl : k < L.length
          · obtain ⟨⟨y0, y1, y2⟩, hy⟩ : ∃ y, L[k]? = some y := ⟨_, List.getElem?_eq_getElem hkl⟩
            obtain ⟨g, so, hg, d0, d1, d2⟩ := hP1 _ _ (oK.up 3) k _ hy
            subst hg
            have HY := Lib.hid hy
            clear hy
            dsimp only at d0 d1 d2
            by_cases hl : y0 < f
            · go_wp2
              go_roundw
              case rel =>
                refine ⟨k + 1, by go_num, by omega, fun j t hj ht => ?_, fun h => (by cases h), oK, kK⟩
                by_cases hjk : j = k
                · subst hjk; rw [HY.out] at ht; cases ht; exact hl
                · exact hlk j t (by omega) ht
              case measure => simp [intOf]; omega
            · go_wp2
              go_meet
              exact ⟨k, rfl, hk, hlk, fun _ t ht => by rw [HY.out] at ht; cases ht; show ¬ y0 < f; omega, oK, kK⟩
          · go_wp2
            go_meet
            exact ⟨k, rfl, hk, hlk, fun _ t ht => by have := (List.getElem?_eq_some_iff.1 ht).1; omega, oK, kK⟩
      case rest =>
        clear oB kB e1 e2 el ef x0 x1 x2 xl xf hP2 hs2 hc2
        obtain ⟨k, rfl, hk, hlk, hfin, oK, kK⟩ := hcut
        have hins := insT_split ⟨f, wt, xs⟩ k L hk hlk (hfin rfl)
        have HI := Lib.hid hins
        clear hins hlk hfin
        have e1 := oK.cell 1
        have el := oK.celLt
        have x0 := (oK.up 2).cell 0
        have x1 := (oK.up 2).cell 1
        have x2 := (oK.up 2).cell 2
        have xl := (oK.up 2).celLt
        have oZ := slc_zero (e := 94) (size := 3) ((oK.alloc (.cells #[] 94)))
        have src0 : ∀ (w : World) (a : Option Addr) (c' : Nat), IsSrc w (.slice a 0 c') 3 0 [] := fun w a c' => ⟨a, c', rfl, by simp, by simp, .inl rfl⟩
        have SRC := Lib.hid src0
        clear src0
        rcases hs1 with ⟨rfl, rfl⟩ | ⟨g, rfl⟩
        · obtain rfl : L = [] := List.eq_nil_of_length_eq_zero (by omega)
          obtain rfl : k = 0 := by simpa using hk
          go_wp2_with (at_builtin; refine wpList_append_src rfl _ _ rfl Tryz.tagT rfl oZ rfl (SRC.out _ _ _) (by unfold maxLen; omega) (by omega) ?k1)
          case k1 =>
          intro a5 c5 w5 o5 k5
          have q2 := (o5.up 1).cell 1
          have x0 := (o5.up 3).cell 0
          have x1 := (o5.up 3).cell 1
          have x2 := (o5.up 3).cell 2
          have oN := (o5.alloc (.cells #[.int .i64 f, .int .i64 wt, .int .i64 xs] 94)).re [1, 0, 2, 3, 4, 5]
          have hnw := Own.news (T := 94) (vs := [.int .i64 f, .int .i64 wt, .int .i64 xs]) (o5.alloc _)
          go_wp2_with (at_builtin; refine wpList_append_slc rfl _ _ rfl Tryz.tagT rfl oN ⟨w5.heap.size, 0, none⟩ 1 1 [.int .i64 f, .int .i64 wt, .int .i64 xs] rfl rfl hnw (by intro u hu; simp at hu; rcases hu with rfl | rfl | rfl <;> rfl) (by unfold maxLen; omega) (by omega) ?k2)
          case k2 =>
          intro a7 c7 w7 o7 k7
          have q7 := (o7.up 2).cell 1
          have ql7 := (o7.up 2).celLt
          go_wp2_with (at_builtin; refine wpList_append_src rfl _ _ rfl Tryz.tagT rfl o7 rfl (SRC.out _ _ _) (by unfold maxLen; omega) (by omega) ?k3)
          case k3 =>
          intro a9 c9 w9 o9 k9
          have q9 := (o9.up 2).cell 1
          have qf9 := (o9.up 2).frozen
          have ql9 := (o9.up 2).celLt
          have oE := joinT_end (L2 := insT ⟨f, wt, xs⟩ []) (by rw [HI.out]; rfl) (by rw [HI.out]; rfl) o9
          rw [HO2.out, HXS.out] at oE
          go_wp2
          go_ret
          exact ⟨_, PExtT.trans (PExtT.add _ _) (PExtT.add _ _), rfl, oE, kK.trans (Calm.trans ⟨k5.os, k5.tape, k5.output⟩ (k7.al.trans (k9.trans ⟨rfl, rfl, rfl⟩)))⟩
        · have b0 : (0 : Int) ≤ (k : Int) := by omega
          have b1 : (k : Int) ≤ (c : Int) := by omega
          have b1' : k ≤ c := by omega
          have b2 : (k : Int) ≤ (L.length : Int) := by omega
          have s1 := tags_cut (i := 0) (k := k) (c := c) hP1 (by omega) (oZ.up 4)
          rw [Nat.zero_mul, Nat.add_zero, List.drop_zero] at s1
          by_cases hkc : k = c
          · subst hkc
            have hkL : L.length = k := by omega
            have hdz : L.drop k = [] := List.drop_eq_nil_of_le (by omega)
            have HDZ := Lib.hid hdz
            have z0 : L.length - k = 0 := by omega
            have z1 : (L.length : Int) ≤ (k : Int) := by omega
            have HKL := Lib.hid hkL
            clear hdz hkL
            go_wp2_with (at_builtin; refine wpList_append_src rfl _ _ rfl Tryz.tagT rfl oZ rfl s1 (by unfold maxLen; omega) (by omega) ?k1)
            case k1 =>
            intro a5 c5 w5 o5 k5
            have q2 := (o5.up 1).cell 1
            have x0 := (o5.up 3).cell 0
            have x1 := (o5.up 3).cell 1
            have x2 := (o5.up 3).cell 2
            have oN := (o5.alloc (.cells #[.int .i64 f, .int .i64 wt, .int .i64 xs] 94)).re [1, 0, 2, 3, 4, 5]
            have hnw := Own.news (T := 94) (vs := [.int .i64 f, .int .i64 wt, .int .i64 xs]) (o5.alloc _)
            go_wp2_with (at_builtin; refine wpList_append_slc rfl _ _ rfl Tryz.tagT rfl oN ⟨w5.heap.size, 0, none⟩ 1 1 [.int .i64 f, .int .i64 wt, .int .i64 xs] rfl rfl hnw (by intro u hu; simp at hu; rcases hu with rfl | rfl | rfl <;> rfl) (by unfold maxLen; omega) (by omega) ?k2)
            case k2 =>
            intro a7 c7 w7 o7 k7
            have q7 := (o7.up 2).cell 1
            have ql7 := (o7.up 2).celLt
            go_wp2_with (at_builtin; refine wpList_append_src rfl _ _ rfl Tryz.tagT rfl o7 rfl (SRC.out _ _ _) (by unfold maxLen; omega) (by omega) ?k3)
            case k3 =>
            intro a9 c9 w9 o9 k9
            have q9 := (o9.up 2).cell 1
            have qf9 := (o9.up 2).frozen
            have ql9 := (o9.up 2).celLt
            have oE := joinT_end (L2 := insT ⟨f, wt, xs⟩ L) (by rw [HI.out]; rw [HDZ.out, List.append_nil, flat_append]; rfl) (by rw [HI.out]; rw [HDZ.out, List.append_nil, List.length_append, List.length_take, HKL.out]; simp) o9
            rw [HO2.out, HXS.out] at oE
            go_wp2
            go_ret
            exact ⟨_, PExtT.trans (PExtT.add _ _) (PExtT.add _ _), rfl, oE, kK.trans (Calm.trans ⟨k5.os, k5.tape, k5.output⟩ (k7.al.trans (k9.trans ⟨rfl, rfl, rfl⟩)))⟩
          · have hkc1 : ((k : Int) == (c : Int)) = false := by rw [beq_eq_false_iff_ne]; omega
            have hkc2 : ¬ c = k := by omega
            have hkc3 : ¬ k = c := hkc
            have hdr : (L.drop k).take (L.length - k) = L.drop k := List.take_of_length_le (by rw [List.length_drop]; omega)
            have HDR := Lib.hid hdr
            clear hdr
            go_wp2_with (at_builtin; refine wpList_append_src rfl _ _ rfl Tryz.tagT rfl oZ rfl s1 (by unfold maxLen; omega) (by omega) ?k1)
            case k1 =>
            intro a5 c5 w5 o5 k5
            have q2 := (o5.up 1).cell 1
            have x0 := (o5.up 3).cell 0
            have x1 := (o5.up 3).cell 1
            have x2 := (o5.up 3).cell 2
            have oN := (o5.alloc (.cells #[.int .i64 f, .int .i64 wt, .int .i64 xs] 94)).re [1, 0, 2, 3, 4, 5]
            have hnw := Own.news (T := 94) (vs := [.int .i64 f, .int .i64 wt, .int .i64 xs]) (o5.alloc _)
            go_wp2_with (at_builtin; refine wpList_append_slc rfl _ _ rfl Tryz.tagT rfl oN ⟨w5.heap.size, 0, none⟩ 1 1 [.int .i64 f, .int .i64 wt, .int .i64 xs] rfl rfl hnw (by intro u hu; simp at hu; rcases hu with rfl | rfl | rfl <;> rfl) (by unfold maxLen; omega) (by omega) ?k2)
            case k2 =>
            intro a7 c7 w7 o7 k7
            have q7 := (o7.up 2).cell 1
            have ql7 := (o7.up 2).celLt
            have s2 := tags_cut (i := k) (k := L.length - k) (c := c - k) hP1 (by omega) (o7.up 5)
            rw [HDR.out, Nat.zero_add] at s2
            go_wp2_with (at_builtin; refine wpList_append_src rfl _ _ rfl Tryz.tagT rfl o7 rfl s2 (by unfold maxLen; omega) (by omega) ?k3)
            case k3 =>
            intro a9 c9 w9 o9 k9
            have q9 := (o9.up 2).cell 1
            have qf9 := (o9.up 2).frozen
            have ql9 := (o9.up 2).celLt
            have oE := joinT_end (L2 := insT ⟨f, wt, xs⟩ L) (by rw [HI.out]; rw [flat_append, flat_append]; simp [flat, tagC]) (by rw [HI.out]; rw [List.length_append, List.length_append, List.length_take, List.length_drop]; simp; omega) o9
            rw [HO2.out, HXS.out] at oE
            go_wp2
            go_ret
            exact ⟨_, PExtT.trans (PExtT.add _ _) (PExtT.add _ _), rfl, oE, kK.trans (Calm.trans ⟨k5.os, k5.tape, k5.output⟩ (k7.al.trans (k9.trans ⟨rfl, rfl, rfl⟩)))⟩
end
end Go.Proofs.YtjpahfkchhnpoaaGreat
