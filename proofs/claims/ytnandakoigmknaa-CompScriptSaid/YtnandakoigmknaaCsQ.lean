/- CompScript, the plain law: Eligible and Serve, on both sides. -/
import Derived.Test.YtnandakoigmknaaCsP
namespace Go.Proofs.Ytnandakoigmknaa
open Go.RowKit
open SP
section
variable {el tg : List (Int × Int)} {tm now : Int} {tags : List Int} {w : World} {R : List SP} {S : SP} {b : Nat} {reb : Int}

theorem atF_neg {f : Int} {el : List (Int × Int)} : atF f 0 el < 0 ↔ mget el f = none := by
  rcases atF_some (f := f) el 0 with ⟨h1, h2⟩ | ⟨i, wt, h1, h2, h3⟩
  · rw [h2]
    refine ⟨fun _ => ?_, fun _ => by omega⟩
    rw [mget_none]
    intro hm
    obtain ⟨p, hp, hpf⟩ := List.mem_map.1 hm
    exact h1 p hp hpf
  · rw [h2, h3]
    constructor
    · intro h; omega
    · intro h; cases h
theorem tagsE_get (el : List (Int × Int)) (now : Int) (i : Nat) : ∀ (L : List (Int × Int)) (tags : List Int), (∀ p ∈ L, 0 ≤ p.1 ∧ p.1 < 32) → tags.length = 32 →
    (tagsE el now L tags).getD i 0 = if (i : Int) ∈ L.map (·.1) ∧ atF (i : Int) 0 el < 0 then max (tags.getD i 0) now else tags.getD i 0
  | [], tags, _, _ => by simp [tagsE]
  | p :: L, tags, hp, hl => by
    have hpp := hp p (by simp)
    have hpl := fun q hq => hp q (List.mem_cons_of_mem p hq)
    unfold tagsE
    by_cases hneg : atF p.1 0 el < 0
    · rw [if_pos hneg, tagsE_get el now i L _ hpl (by rw [List.length_set]; exact hl), getD_set (by omega)]
      simp only [List.map_cons, List.mem_cons]
      by_cases he : (i : Int) = p.1
      · have hi : i = p.1.toNat := by omega
        rw [if_pos hi, ← hi]
        have hn : atF (i : Int) 0 el < 0 := by rw [he]; exact hneg
        rw [if_pos (show ((i : Int) = p.1 ∨ (i : Int) ∈ L.map (·.1)) ∧ atF (i : Int) 0 el < 0 from ⟨.inl he, hn⟩)]
        split <;> omega
      · have hi : ¬ i = p.1.toNat := by omega
        rw [if_neg hi]
        simp only [he, false_or]
    · rw [if_neg hneg, tagsE_get el now i L _ hpl hl]
      simp only [List.map_cons, List.mem_cons]
      by_cases he : (i : Int) = p.1
      · have hn : ¬ atF (i : Int) 0 el < 0 := by rw [he]; exact hneg
        rw [if_neg (fun h => hn h.2), if_neg (fun h => hn h.2)]
      · simp only [he, false_or]
theorem eligTg_vals (el : List (Int × Int)) (htm : 0 ≤ tm ∧ tm ≤ 1099511627776) : ∀ (L tg : List (Int × Int)), (∀ x ∈ tg, 0 ≤ x.2 ∧ x.2 ≤ 1099511627776) → ∀ x ∈ eligTg el tm L tg, 0 ≤ x.2 ∧ x.2 ≤ 1099511627776
  | [], _, h => h
  | p :: L, tg, h => by
    unfold eligTg
    refine eligTg_vals el htm L _ ?_
    split
    · exact h
    · exact mput_range h (by have := tget_range h p.1; omega)
theorem CsRel.elig {L : List (Int × Int)} (h : CsRel el tg tm tags now) (hL : eligBad (-1) L = false) : CsRel L (eligTg el tm L tg) tm (tagsE el now L tags) now ∧ eligEl L [] = L := by
  obtain ⟨k1, k2⟩ := elig_asc L (-1) hL
  refine ⟨⟨eligTg_uniq el tm L tg h.uniq, eligTg_vals el h.tm L tg h.vals, hL, by rw [tagsE_len]; exact h.len, fun f => ?_, h.now, h.tm⟩, eligEl_self (asc_uniq k1)⟩
  rw [eligTg_get, h.tag f]
  by_cases hf : 0 ≤ f ∧ f < 32
  · obtain ⟨i, rfl⟩ : ∃ i : Nat, f = (i : Int) := ⟨f.toNat, by omega⟩
    rw [if_pos hf, if_pos hf, Int.toNat_natCast, tagsE_get el now i L tags (fun p hp => by have := k2 p hp; omega) h.len, h.now]
    simp only [atF_neg]
  · rw [if_neg hf, if_neg hf, if_neg]
    rintro ⟨hm, _⟩
    obtain ⟨p, hp, rfl⟩ := List.mem_map.1 hm
    have := k2 p hp
    omega

/-! ### Serve -/
theorem CsRel.least_cons {p : Int × Int} {l' : List (Int × Int)} (h : CsRel el tg tm tags now) (he : el = p :: l') : leastF el tg = selL tags l' p.1 := by
  subst he
  exact h.least
theorem tags_map (h : ∀ f, tget tg f = if 0 ≤ f ∧ f < 32 then tags.getD f.toNat 0 else 0) (hl : tags.length = 32) {by_ : Int} (hb : 0 ≤ by_) :
    ∀ f, tget (lower by_ tg) f = if 0 ≤ f ∧ f < 32 then (tags.map fun t => max (t - by_) 0).getD f.toNat 0 else 0 := fun f => by
  rw [tget_lower by_ hb, h f]
  by_cases hf : 0 ≤ f ∧ f < 32
  · rw [if_pos hf, if_pos hf]
    have : f.toNat < tags.length := by omega
    rw [List.getD_eq_getElem?_getD, List.getD_eq_getElem?_getD, List.getElem?_map, List.getElem?_eq_getElem this]
    rfl
  · rw [if_neg hf, if_neg hf]; omega
theorem lower_vals {by_ : Int} (hb : 0 ≤ by_) (h : ∀ x ∈ tg, 0 ≤ x.2 ∧ x.2 ≤ 1099511627776) : ∀ x ∈ lower by_ tg, 0 ≤ x.2 ∧ x.2 ≤ 1099511627776 := fun x hx => by
  obtain ⟨y, hy, rfl⟩ := List.mem_map.1 hx
  have := h y hy
  show 0 ≤ max (y.2 - by_) 0 ∧ max (y.2 - by_) 0 ≤ _
  omega

/-- What both sides do at a call of Serve. -/
structure Both (el tg : List (Int × Int)) (tm : Int) (tags : List Int) (now reb f len er : Int) (tg' : List (Int × Int)) (tm' : Int) (tags' : List Int) (now' : Int) : Prop where
  rel : CsRel el tg' tm' tags' now'
  prog : ∀ (b : Nat) (w : World) (R : List SP), Own w (OrderR b reb el tg tm :: R) → Calls Try.prog 18 #[.pointer (some ⟨b, 0, none⟩), .int .i64 f, .int .i64 len] w (Ret (.int .i64 er) (OrderR b reb el tg' tm' :: R) w)
  ref : ∀ (S : SP) (b : Nat) (w : World) (R : List SP), Own w (RefR S b reb el tags now :: S :: R) → Calls Try.prog 48 #[.pointer (some ⟨b, 0, none⟩), .int .i64 f, .int .i64 len] w (Ret (.int .i64 er) (RefR S b reb el tags' now' :: S :: R) w)

theorem serve_both (h : CsRel el tg tm tags now) (reb f len : Int) : ∃ er tg' tm' tags' now', Both el tg tm tags now reb f len er tg' tm' tags' now' := by
  have hk := h.keyOk
  have hn := h.elen
  have hkeys := h.keys
  rcases atF_some (f := f) el 0 with ⟨h1, h2⟩ | ⟨i, wt, h1, h2, h3⟩
  · have hm : mget el f = none := atF_neg.1 (by rw [h2]; omega)
    have e1 : servE el tg f len = 6 := by unfold servE; rw [hm]; rfl
    refine ⟨6, tg, tm, tags, now, h, fun b w R o => ?_, fun S b w R o => refServe_none f len (by omega) h2 o⟩
    refine (serve_spec f len hk (by omega) h.uniq h.vals h.tm o).mono fun e w' hp => ?_
    unfold ServPost at hp
    rw [e1, if_pos (by decide)] at hp
    exact hp
  · rw [Nat.zero_add] at h2
    have hmem : (f, wt) ∈ el := List.mem_of_getElem? h1
    have hfr := hkeys.2 _ hmem
    dsimp only at hfr
    have hte : tget el f = wt := by unfold tget; rw [h3]; rfl
    have hs : (mget el f).isSome = true := by rw [h3]; rfl
    have eE : servE el tg f len = (servFin el tg f len).2 := if_pos hs
    have eF : servFin el tg f len = finF (tget tg f) len wt := by unfold servFin; rw [hte]
    obtain ⟨f0, rfl⟩ : ∃ f0 : Nat, f = (f0 : Int) := ⟨f.toNat, by omega⟩
    have hl := h.len
    obtain ⟨t, ht⟩ : ∃ t, tags[f0]? = some t := ⟨_, List.getElem?_eq_getElem (by omega)⟩
    have htg : tget tg (f0 : Int) = t := by rw [h.tag, if_pos ⟨hfr.1, hfr.2.1⟩, Int.toNat_natCast, List.getD_eq_getElem?_getD, ht]; rfl
    have htr := h.tval _ (List.mem_of_getElem? ht)
    rw [htg] at eF
    by_cases hb : badLW len wt
    · have e2 : finF t len wt = (0, 1) := by unfold finF; rw [if_pos (.inl hb)]
      refine ⟨1, tg, tm, tags, now, h, fun b w R o => ?_, fun S b w R o => refServe_bad (f0 : Int) len (by omega) h1 h2 hb o⟩
      refine (serve_spec (f0 : Int) len hk (by omega) h.uniq h.vals h.tm o).mono fun e w' hp => ?_
      unfold ServPost at hp
      rw [eE, eF, e2, if_pos (by decide)] at hp
      exact hp
    · have hno : ¬ (badLW len wt ∨ t < 0 ∨ 1099511627776 < t) := by rintro (h | h | h); exact hb h; omega; omega
      by_cases hr : 1099511627776 < t + cst len wt
      · have e2 : finF t len wt = (0, 2) := by unfold finF; rw [if_neg hno, if_pos hr]
        refine ⟨2, tg, tm, tags, now, h, fun b w R o => ?_, fun S b w R o => refServe_range f0 len (by omega) h1 h2 hb ht htr hr o⟩
        refine (serve_spec (f0 : Int) len hk (by omega) h.uniq h.vals h.tm o).mono fun e w' hp => ?_
        unfold ServPost at hp
        rw [eE, eF, e2, if_pos (by decide)] at hp
        exact hp
      · have e2 : finF t len wt = (t + cst len wt, 0) := by unfold finF; rw [if_neg hno, if_neg hr]
        have hcr : 45045 ≤ cst len wt := by unfold badLW at hb; exact (cst_range (by omega) (by omega) (by omega) (by omega)).1
        have eTg : servTg el tg (f0 : Int) len = mput tg (f0 : Int) (t + cst len wt) := by unfold servTg; rw [eF, e2]
        have eTm : servTm tg tm (f0 : Int) = max tm t := by unfold servTm; rw [htg]
        have htm := h.tm
        have h1r : CsRel el (mput tg (f0 : Int) (t + cst len wt)) (max tm t) (tags.set f0 (t + cst len wt)) (max now t) := by
          refine ⟨h.uniq.mput _ _, mput_range h.vals (by omega), h.el, by rw [List.length_set]; exact hl, fun g => ?_, by rw [h.now], by omega⟩
          rw [tget_mput, h.tag g]
          by_cases hg : 0 ≤ g ∧ g < 32
          · rw [if_pos hg, if_pos hg, getD_set (by omega)]
            by_cases e : g = (f0 : Int)
            · rw [if_pos e, if_pos (by omega)]
            · rw [if_neg e, if_neg (by omega)]
          · rw [if_neg hg, if_neg hg, if_neg (by omega)]
        obtain ⟨p, l', hel⟩ : ∃ p l', el = p :: l' := by
          cases el with
          | nil => simp at hmem
          | cons p l' => exact ⟨p, l', rfl⟩
        have hsm : selL (tags.set f0 (t + cst len wt)) l' p.1 ∈ el.map (·.1) := by
          rw [hel]
          rcases selL_mem (tags.set f0 (t + cst len wt)) l' p.1 with h | h
          · rw [h]; simp
          · simp only [List.map_cons, List.mem_cons]; exact .inr h
        obtain ⟨q, hq, hqe⟩ := List.mem_map.1 hsm
        have hqr := hkeys.2 q hq
        have hle2 : leastF el (mput tg (f0 : Int) (t + cst len wt)) = selL (tags.set f0 (t + cst len wt)) l' p.1 := h1r.least_cons hel
        obtain ⟨k, hkk⟩ : ∃ k : Nat, selL (tags.set f0 (t + cst len wt)) l' p.1 = (k : Int) := ⟨(selL (tags.set f0 (t + cst len wt)) l' p.1).toNat, by omega⟩
        rw [hkk] at hle2 hqe
        have hsel : refSel (tags.set f0 (t + cst len wt)) el = .tuple #[.int .i64 (k : Int), .int .i64 0] := by rw [hel]; show Value.tuple #[.int .i64 (selL _ l' p.1), .int .i64 0] = _; rw [hkk]
        obtain ⟨tk, htk⟩ : ∃ tk, (tags.set f0 (t + cst len wt))[k]? = some tk := ⟨_, List.getElem?_eq_getElem (by rw [List.length_set]; omega)⟩
        have htkg : tget (mput tg (f0 : Int) (t + cst len wt)) (k : Int) = tk := by rw [h1r.tag, if_pos (by omega), Int.toNat_natCast, List.getD_eq_getElem?_getD, htk]; rfl
        have htkr := h1r.tval _ (List.mem_of_getElem? htk)
        have eBy : servBy el tg tm (f0 : Int) len = min (max tm t) tk := by unfold servBy; rw [eTm, eTg, hle2, htkg]
        have eBy2 : min tk (max now t) = min (max tm t) tk := by rw [h.now]; omega
        have hby0 : 0 ≤ min (max tm t) tk := by omega
        have hrefs := fun (S : SP) (b : Nat) (w : World) (R : List SP) (o : Own w (RefR S b reb el tags now :: S :: R)) =>
          refServe_ok f0 len (by omega) (fun p hp => by have := hkeys.2 p hp; omega) h1 h2 hb ht htr h.tval (by rw [h.now]; exact htm) hr hsel htk o
        by_cases hlow : min (max tm t) tk < reb
        · refine ⟨0, _, _, _, _, h1r, fun b w R o => ?_, fun S b w R o => ?_⟩
          · refine (serve_spec (f0 : Int) len hk (by omega) h.uniq h.vals h.tm o).mono fun e w' hp => ?_
            unfold ServPost at hp
            rw [eE, eF, e2, if_neg (by simp), eBy, if_pos hlow, eTg, eTm] at hp
            exact hp
          · refine (hrefs S b w R o).mono fun e w' hp => ?_
            unfold RefServ2 at hp
            rw [eBy2, if_pos hlow] at hp
            exact hp
        · refine ⟨0, lower (min (max tm t) tk) (mput tg (f0 : Int) (t + cst len wt)), max tm t - min (max tm t) tk, (tags.set f0 (t + cst len wt)).map (fun t' => max (t' - min (max tm t) tk) 0), max now t - min (max tm t) tk, ⟨h1r.uniq.lower _, lower_vals hby0 h1r.vals, h.el, by rw [List.length_map]; exact h1r.len, tags_map h1r.tag h1r.len hby0, by rw [h.now], by omega⟩, fun b w R o => ?_, fun S b w R o => ?_⟩
          · refine (serve_spec (f0 : Int) len hk (by omega) h.uniq h.vals h.tm o).mono fun e w' hp => ?_
            unfold ServPost at hp
            rw [eE, eF, e2, if_neg (by simp), eBy, if_neg hlow, eTg, eTm] at hp
            exact hp
          · refine (hrefs S b w R o).mono fun e w' hp => ?_
            unfold RefServ2 at hp
            rw [eBy2, if_neg hlow] at hp
            exact hp
end
end Go.Proofs.Ytnandakoigmknaa
