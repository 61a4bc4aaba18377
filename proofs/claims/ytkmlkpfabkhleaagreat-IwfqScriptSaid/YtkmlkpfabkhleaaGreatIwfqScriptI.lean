/- Texts that the law rests on, put together by a program. -/
import Derived.Test.YtkmlkpfabkhleaaGreatIwfqScriptF
import Derived.Test.YtkmlkpfabkhleaaGreatIwfqScriptH
import Derived.Test.YtkmlkpfabkhleaaGreatIwfqScriptC
import Derived.Test.YtkmlkpfabkhleaaGreatIwfqScriptA
import Derived.Test.YtkmlkpfabkhleaaGreatIwfqScriptB
/- Both references: their relation, and each operation on both. -/
namespace Go.Proofs.YtkmlkpfabkhleaaGreat
open Go.RowKit
open SP
section
variable {P : SP} {W w w' : World} {R : List SP} {b : Nat} {at_ now aw : Int} {L O : List Tg}
set_option maxHeartbeats 3200000 in
set_option maxRecDepth 100000 in
theorem joinT_bad (f wt : Int) (hb : f < 0 ∨ 32 ≤ f ∨ wt < 1 ∨ 16 < wt) :
    Calls Tryz.prog 82 #[.pointer (some ⟨b, 0, none⟩), .int .i64 f, .int .i64 wt] w (IsRet (.int .i64 1) w) := by
  have hgw := goodW_spec wt w
  by_cases h1 : f < 0
  · clear hb hgw
    go_enter Tryz.func82, Tryz.ntmps82
    go_wp2
    go_ret
    exact ⟨rfl, rfl⟩
  · by_cases h2 : 32 ≤ f
    · clear hb hgw
      go_enter Tryz.func82, Tryz.ntmps82
      go_wp2
      go_ret
      exact ⟨rfl, rfl⟩
    · have hd : decide (1 ≤ wt ∧ wt ≤ 16) = false := by
        rw [decide_eq_false_iff_not]; omega
      rw [hd] at hgw
      clear hb hd
      go_enter Tryz.func82, Tryz.ntmps82
      go_wp2_with fail
      refine hgw.mono ?_
      rintro e1 w1 ⟨rfl, rfl⟩
      go_wp2
      go_ret
      exact ⟨rfl, rfl⟩
set_option maxHeartbeats 3200000 in
set_option maxRecDepth 100000 in
theorem joinT_dup (f wt : Int) (hf : 0 ≤ f ∧ f < 32) (hw : 1 ≤ wt ∧ wt ≤ 16) {t : Tg} (hn : fget L f = some t) (hL : L.length ≤ 1000) (o : Own w (RefT P b at_ L O now aw :: P :: R)) :
    Calls Tryz.prog 82 #[.pointer (some ⟨b, 0, none⟩), .int .i64 f, .int .i64 wt] w (IsRet (.int .i64 7) w) := by
  have hat := index_spec f hL o
  obtain ⟨i, hi, hai⟩ := idxT_some 0 L hn
  rw [hai, Nat.zero_add] at hat
  have hgw := goodW_spec wt w
  have hdw : decide (1 ≤ wt ∧ wt ≤ 16) = true := by simp; exact hw
  rw [hdw] at hgw
  obtain ⟨hf0, hf1⟩ := hf
  clear hdw hn hw hi hai
  go_enter Tryz.func82, Tryz.ntmps82
  go_wp2_with fail
  refine hgw.mono ?_
  rintro e1 w1 ⟨rfl, rfl⟩
  go_wp2_with fail
  refine hat.mono ?_
  rintro e2 w2 ⟨rfl, rfl⟩
  go_wp2
  go_ret
  exact ⟨rfl, rfl⟩
end

/-- Behind N acts. -/
structure RelT (N : Nat) (S : St) (O : List Tg) : Prop where
  ok : StOk S
  r : R12 S O
  ol : O.length ≤ N
  aw0 : 0 ≤ S.aw
  aw1 : S.aw ≤ N * 1099511627776
theorem RelT.start : RelT 0 St0 [] := ⟨StOk.start, R12.start, by simp, by simp [St0], by simp [St0]⟩
theorem RelT.next {N : Nat} {S : St} {O : List Tg} (h : RelT N S O) : RelT (N + 1) S O := ⟨h.ok, h.r, by have := h.ol; omega, h.aw0, by have := h.aw1; push_cast; omega⟩

/-- One operation on both. -/
structure BothT (fp fr : Nat) (args : Value → Array Value) (reb er : Int) (S : St) (O : List Tg) (S' : St) (O' : List Tg) : Prop where
  prog : ∀ (b : Nat) (w : World) (R : List SP), Own w (SfqR b reb S :: R) → Calls Tryz.prog fp (args (.pointer (some ⟨b, 0, none⟩))) w (Ret (.int .i64 er) (SfqR b reb S' :: R) w)
  ref : ∀ (P : SP) (b : Nat) (w : World) (R : List SP), Own w (RefT P b reb S.L O S.tm S.aw :: P :: R) → Calls Tryz.prog fr (args (.pointer (some ⟨b, 0, none⟩))) w (SetWT b reb S'.L O' S'.tm S'.aw P R w er)

section
variable {S : St} {O : List Tg} {N : Nat}
theorem setWT_same {b : Nat} {at_ er now aw : Int} {L : List Tg} {P : SP} {R : List SP} {w : World} (o : Own w (RefT P b at_ L O now aw :: P :: R)) {e : Ending} {w' : World} (h : IsRet (.int .i64 er) w e w') : SetWT b at_ L O now aw P R w er e w' := by
  obtain ⟨rfl, rfl⟩ := h
  exact ⟨P, PExtT.refl P, rfl, o, Calm.refl _⟩
theorem join_both (h : RelT N S O) (hN : N ≤ 1000) (reb f wt : Int) : ∃ er S' O', joinR S f wt = (er, S') ∧ RelT (N + 1) S' O' ∧ BothT 80 82 (fun p => #[p, .int .i64 f, .int .i64 wt]) reb er S O S' O' := by
  have hlen := h.ok.ok.len
  by_cases hb : f < 0 ∨ 32 ≤ f ∨ wt < 1 ∨ 16 < wt
  · have e : joinR S f wt = (1, S) := by
      have : joinE S f wt = 1 := if_pos hb
      unfold joinR; rw [this]; rfl
    refine ⟨1, S, O, e, h.next, fun b w R o => ?_, fun P b w R o => ?_⟩
    · have := sfqJoin_spec f wt o
      rw [e] at this
      exact this
    · exact (joinT_bad f wt hb).mono fun e w' he => setWT_same o he
  · cases hf : fget S.L f with
    | some t =>
      have e : joinR S f wt = (7, S) := by
        have : joinE S f wt = 7 := by unfold joinE; rw [if_neg hb, hf]; rfl
        unfold joinR; rw [this]; rfl
      refine ⟨7, S, O, e, h.next, fun b w R o => ?_, fun P b w R o => ?_⟩
      · have := sfqJoin_spec f wt o
        rw [e] at this
        exact this
      · exact (joinT_dup f wt (by omega) (by omega) hf (by omega) o).mono fun e w' he => setWT_same o he
    | none =>
      have hE : joinE S f wt = 0 := by unfold joinE; rw [if_neg hb, hf]; rfl
      have e : joinR S f wt = (0, joinS S f wt) := by unfold joinR; rw [hE]; rfl
      refine ⟨0, joinS S f wt, delT f O, e, ⟨(h.ok.join hE).1, ⟨fun g => ?_, fun t ht => ?_, fun t ht => h.r.rng t (mem_delT.1 ht).1⟩, ?_, h.aw0, ?_⟩, fun b w R o => ?_, fun P b w R o => ?_⟩
      · rw [oldM_del, h.r.old]; rfl
      · show (if t.f = f then 0 else S.old t.f) = 0
        split
        · rfl
        · rename_i hne
          rcases mem_insT.1 ht with rfl | ht
          · exact absurd rfl hne
          · exact h.r.act t ht
      · have := h.ol
        have := delT_len f O
        omega
      · show S.aw ≤ _
        have := h.aw1
        push_cast
        omega
      · have := sfqJoin_spec f wt o
        rw [e] at this
        exact this
      · have := joinT_spec f wt (by omega) (by omega) hf (by omega) (by have := h.ol; omega) h.r.rng h.ok.tm o
        rw [h.r.old] at this
        exact this
theorem leave_both (h : RelT N S O) (hN : N ≤ 1000) (reb f : Int) : ∃ er S' O', leaveR S f = (er, S') ∧ RelT (N + 1) S' O' ∧ BothT 101 104 (fun p => #[p, .int .i64 f]) reb er S O S' O' := by
  have hlen := h.ok.ok.len
  cases hf : fget S.L f with
  | none =>
    have e : leaveR S f = (6, S) := by unfold leaveR; rw [hf]
    refine ⟨6, S, O, e, h.next, fun b w R o => ?_, fun P b w R o => ?_⟩
    · have := sfqLeave_spec f o
      rw [e] at this
      exact this
    · exact (leaveT_none f (by omega) hf o).mono fun e w' he => setWT_same o he
  | some t =>
    have e : leaveR S f = (0, leaveS S f t.s) := by unfold leaveR; rw [hf]
    obtain ⟨hm, htf⟩ := fget_some hf
    have hr := h.ok.ok.rng t hm
    have hL : (leaveS S f t.s).L = delT f S.L := by
      unfold leaveS
      split
      · rename_i hz; exact hz.symm
      · rfl
    have hT : (leaveS S f t.s).tm = lvN f S.L S.tm := by
      unfold leaveS lvN
      split <;> rfl
    have hA : (leaveS S f t.s).aw = S.aw := by
      unfold leaveS
      split <;> rfl
    refine ⟨0, leaveS S f t.s, lvO f S.L O t, e, ⟨h.ok.leave hf, ⟨fun g => ?_, fun u hu => ?_, fun u hu => ?_⟩, ?_, by rw [hA]; exact h.aw0, ?_⟩, fun b w R o => ?_, fun P b w R o => ?_⟩
    · unfold leaveS lvO
      split
      · rfl
      · rw [oldM_snoc, h.r.old]
        show _ = if g = f then t.s else S.old g
        by_cases hg : g = f
        · subst hg
          rw [if_pos htf, if_pos rfl]
          have := h.r.act t hm
          rw [htf] at this
          rw [this]
          omega
        · rw [if_neg (by rw [htf]; exact fun e => hg e.symm), if_neg hg]
    · rw [hL] at hu
      obtain ⟨h1, h2⟩ := mem_delT.1 hu
      have := h.r.act u h1
      unfold leaveS
      split
      · rfl
      · show (if u.f = f then t.s else S.old u.f) = 0
        rw [if_neg h2]; exact this
    · unfold lvO at hu
      split at hu
      · simp at hu
      · rcases List.mem_append.1 hu with hu | hu
        · exact h.r.rng u hu
        · rw [List.mem_singleton] at hu
          subst hu
          omega
    · have := h.ol
      unfold lvO
      split
      · simp
      · rw [List.length_append]; simp; omega
    · rw [hA]
      have := h.aw1
      push_cast
      omega
    · have := sfqLeave_spec f o
      rw [e] at this
      exact this
    · have := leaveT_ok f h.ok.ok (by have := h.ol; omega) hf o
      rw [hL, hT, hA]
      exact this
theorem setW_both (h : RelT N S O) (reb f wt : Int) : ∃ er S' O', setWR S f wt = (er, S') ∧ RelT (N + 1) S' O' ∧ BothT 108 75 (fun p => #[p, .int .i64 f, .int .i64 wt]) reb er S O S' O' := by
  have hlen := h.ok.ok.len
  cases hf : fget S.L f with
  | none =>
    have e : setWR S f wt = (6, S) := by unfold setWR; rw [hf]
    refine ⟨6, S, O, e, h.next, fun b w R o => ?_, fun P b w R o => ?_⟩
    · have := sfqSetW_spec f wt o
      rw [e] at this
      exact this
    · have := setWT_err f wt (by omega) (.inl hf) o
      rw [if_pos hf] at this
      exact this.mono fun e w' he => setWT_same o he
  | some t =>
    obtain ⟨hm, htf⟩ := fget_some hf
    have hr := h.ok.ok.rng t hm
    by_cases hb : wt < 1 ∨ 16 < wt
    · have e : setWR S f wt = (1, S) := by unfold setWR; rw [hf]; exact if_pos hb
      refine ⟨1, S, O, e, h.next, fun b w R o => ?_, fun P b w R o => ?_⟩
      · have := sfqSetW_spec f wt o
        rw [e] at this
        exact this
      · have := setWT_err f wt (by omega) (.inr (by omega)) o
        rw [if_neg (by rw [hf]; simp)] at this
        exact this.mono fun e w' he => setWT_same o he
    · have e : setWR S f wt = (0, { S with L := setT ⟨t.f, wt, t.s⟩ S.L }) := by unfold setWR; rw [hf]; exact if_neg hb
      refine ⟨0, { S with L := setT ⟨t.f, wt, t.s⟩ S.L }, O, e, ⟨⟨h.ok.ok.set (x := ⟨t.f, wt, t.s⟩) ⟨hr.1, hr.2.1, by show 1 ≤ wt; omega, by show wt ≤ 16; omega, hr.2.2.2.2⟩, h.ok.old, h.ok.tm⟩, ⟨h.r.old, fun u hu => ?_, h.r.rng⟩, ?_, h.aw0, ?_⟩, fun b w R o => ?_, fun P b w R o => ?_⟩
      · rcases mem_setT hu with rfl | ⟨hu, -⟩
        · exact h.r.act t hm
        · exact h.r.act u hu
      · have := h.ol
        omega
      · show S.aw ≤ _
        have := h.aw1
        push_cast
        omega
      · have := sfqSetW_spec f wt o
        rw [e] at this
        exact this
      · exact setWT_ok f wt h.ok.ok (by omega) hf o
theorem finF_bad {s len wt : Int} (hl : ¬ (1 ≤ len ∧ len ≤ 4096)) : finF s len wt = (0, 1) := by
  unfold finF
  exact if_pos (.inl (by unfold badLW; omega))
theorem finF_rng {s len wt : Int} (hl : 1 ≤ len ∧ len ≤ 4096) (hw : 1 ≤ wt ∧ wt ≤ 16) (hs : 0 ≤ s ∧ s ≤ 1099511627776) (h : (finF s len wt).2 ≠ 0) : (finF s len wt).2 = 2 := by
  unfold finF at *
  split at h
  · rename_i hx
    unfold badLW at hx
    omega
  · rename_i hx
    rw [if_neg hx]
    split at h
    · rename_i hy; rw [if_pos hy]
    · exact absurd rfl h
theorem charge_both (h : RelT N S O) (hN : N ≤ 1000) (reb f len : Int) : ∃ er S' O', chargeR reb S f len = (er, S') ∧ RelT (N + 1) S' O' ∧ BothT 95 116 (fun p => #[p, .int .i64 f, .int .i64 len]) reb er S O S' O' := by
  have hlen := h.ok.ok.len
  have hawr : 0 ≤ S.aw ∧ S.aw ≤ 1152921504606846976 := ⟨h.aw0, by have := h.aw1; omega⟩
  have haw := chargeR_aw reb h.ok f len
  cases hf : fget S.L f with
  | none =>
    have e : chargeR reb S f len = (6, S) := by unfold chargeR; rw [hf]
    refine ⟨6, S, O, e, h.next, fun b w R o => sfqCharge_as e hawr o, fun P b w R o => ?_⟩
    exact (chargeT_none f len (by omega) hf o).mono fun e w' he => setWT_same o he
  | some t =>
    obtain ⟨hm, htf⟩ := fget_some hf
    have hr := h.ok.ok.rng t hm
    by_cases hl : 1 ≤ len ∧ len ≤ 4096
    · by_cases he : (finF t.s len t.w).2 = 0
      · obtain ⟨nx, hnx⟩ : ∃ nx, finF t.s len t.w = (nx, 0) := ⟨(finF t.s len t.w).1, by rw [← he]⟩
        obtain ⟨k1, k2, k3, k4⟩ := finF_ok he
        have hc : 0 ≤ nx ∧ nx ≤ 1099511627776 := by
          rw [hnx] at k1
          have k1' : nx = _ := k1
          have : 0 ≤ cst len t.w := by
            unfold cst
            exact Int.mul_nonneg (by omega) (by have := unit1_range (wt := t.w) (by omega) (by omega); omega)
          omega
        have e := chargeR_ok (reb := reb) hf hnx
        have hok := h.ok.ch hm hc
        have hne : (chS S t nx).L ≠ [] := setT_ne (List.ne_nil_of_mem hm)
        have hb := byS_rng hok hne
        have hB : chB (setT ⟨t.f, t.w, nx⟩ S.L) (max S.tm t.s) = byS (chS S t nx) := Int.min_comm _ _
        rw [e] at haw
        dsimp only at haw
        have hR : RelT (N + 1) (rebS reb (chS S t nx)) (chO reb (max S.tm t.s) (setT ⟨t.f, t.w, nx⟩ S.L) O) := by
          have hca : ∀ u ∈ (chS S t nx).L, S.old u.f = 0 := fun u hu => by
            rcases mem_setT hu with rfl | ⟨hu, -⟩
            · exact h.r.act t hm
            · exact h.r.act u hu
          refine ⟨hok.reb hne reb, ?_, ?_, by have := h.aw0; have := haw.1; omega, by have := h.aw1; have := haw.2; push_cast; omega⟩
          · unfold rebS chO
            rw [hB]
            split
            · exact ⟨h.r.old, hca, h.r.rng⟩
            · refine ⟨fun g => ?_, fun u hu => ?_, fun u hu => ?_⟩
              · rw [oldM_low g _ hb.1, h.r.old]; rfl
              · obtain ⟨v, hv, rfl⟩ := List.mem_map.1 hu
                have := hca v hv
                show max (S.old v.f - _) 0 = 0
                rw [this]
                omega
              · obtain ⟨v, hv, rfl⟩ := List.mem_map.1 hu
                have := h.r.rng v hv
                show 0 ≤ max (v.s - _) 0 ∧ max (v.s - _) 0 ≤ _
                omega
          · have := h.ol
            unfold chO
            split
            · omega
            · rw [List.length_map]; omega
        have hL : (rebS reb (chS S t nx)).L = chL reb (max S.tm t.s) (setT ⟨t.f, t.w, nx⟩ S.L) := by
          unfold rebS chL
          rw [hB]
          split
          · rfl
          · refine List.map_congr_left fun u hu => ?_
            have := hb.2.2 u hu
            show Tg.mk _ _ _ = Tg.mk _ _ _
            congr 1
            omega
        have hT : (rebS reb (chS S t nx)).tm = chN reb (max S.tm t.s) (setT ⟨t.f, t.w, nx⟩ S.L) := by
          unfold rebS chN
          rw [hB]
          split <;> rfl
        have hA : (rebS reb (chS S t nx)).aw = chA reb (max S.tm t.s) S.aw (setT ⟨t.f, t.w, nx⟩ S.L) := by
          unfold rebS chA
          rw [hB]
          split <;> rfl
        refine ⟨0, _, _, e, hR, fun b w R o => sfqCharge_as e hawr o, fun P b w R o => ?_⟩
        rw [hL, hT, hA]
        exact chargeT_ok f len nx h.ok.ok hok.ok hf hl hnx h.ok.tm hawr (by have := h.ol; omega) h.r.rng o
      · have e := chargeR_err (reb := reb) hf he
        rw [finF_rng hl ⟨hr.2.2.1, hr.2.2.2.1⟩ hr.2.2.2.2 he] at e
        refine ⟨2, S, O, e, h.next, fun b w R o => sfqCharge_as e hawr o, fun P b w R o => ?_⟩
        exact (chargeT_rng f len h.ok.ok hf hl he o).mono fun e w' he => ⟨P, PExtT.refl P, he⟩
    · have e := chargeR_err (reb := reb) (len := len) hf (by rw [finF_bad hl]; decide)
      rw [finF_bad hl] at e
      refine ⟨1, S, O, e, h.next, fun b w R o => sfqCharge_as e hawr o, fun P b w R o => ?_⟩
      exact (chargeT_len f len (by omega) hf hl o).mono fun e w' he => setWT_same o he
end
end Go.Proofs.YtkmlkpfabkhleaaGreat

/- The reference of iwfq: a packet sent. -/
namespace Go.Proofs.YtkmlkpfabkhleaaGreat
open Go.RowKit
open SP
section
variable {w w' : World} {R : List SP} {b pr : Nat} {at_ : Int} {O : List Tg} {P Sp : SP} {S : St} {m : List (Int × Acc)}

theorem Tryz.bndT : ElemT Tryz.prog 78 145 4 32 := ElemT.mk' (z := .agg #[.int .i64 0, .int .i64 0, .int .i64 0, .int .i64 0]) Tryz.underlying78 (by kernel_rfl) rfl (by decide)
def bdV (p : Int × Acc) : List Value := [.int .i64 p.1, .int .i64 p.2.1, .int .i64 p.2.2.1, .int .i64 p.2.2.2]
theorem bdV_len (p : Int × Acc) : (bdV p).length = 4 := rfl
theorem flat_bdV (m : List (Int × Acc)) (L : List Tg) : flat (bdC m) L = flat bdV (L.map fun t => (t.f, accO m t.f)) := by
  unfold flat
  rw [List.flatMap_map]
  rfl
theorem bd_one (m : List (Int × Acc)) (L : List Tg) : ∀ u ∈ flat (bdC m) L, u.oneCell' = true := by
  intro u hu
  obtain ⟨s, _, hs⟩ := List.mem_flatMap.1 hu
  unfold bdC at hs
  simp at hs
  rcases hs with rfl | rfl | rfl | rfl <;> rfl
theorem bd_set {L : List Tg} (hL : L.Pairwise (fun a b => a.f < b.f)) {k : Nat} {tk : Tg} (hk : L[k]? = some tk) (x : Int) :
    (flat (bdC m) L).set (k * 4 + 1) (.int .i64 x) = flat (bdC (mput m tk.f (x, (accO m tk.f).2))) L := by
  have hkl := (List.getElem?_eq_some_iff.1 hk).1
  rw [flat_bdV, flat_bdV, ← flat_set bdV_len (L.map fun t => (t.f, accO m t.f)) k 1 (tk.f, accO m tk.f) (tk.f, (x, (accO m tk.f).2)) (.int .i64 x) (by rw [List.getElem?_map, hk]; rfl) (by omega) rfl]
  congr 1
  refine List.ext_getElem? fun q => ?_
  rw [List.getElem?_set, List.length_map]
  by_cases e : k = q
  · subst e
    rw [if_pos rfl, if_pos hkl, List.getElem?_map, hk]
    show some (tk.f, (x, (accO m tk.f).2)) = some (tk.f, accO (mput m tk.f (x, (accO m tk.f).2)) tk.f)
    rw [accO_mput, if_pos rfl]
  · rw [if_neg e, List.getElem?_map, List.getElem?_map]
    by_cases hq : q < L.length
    · rw [List.getElem?_eq_getElem hq]
      show some (L[q].f, accO m L[q].f) = some (L[q].f, accO (mput m tk.f (x, (accO m tk.f).2)) L[q].f)
      rw [accO_mput, if_neg]
      obtain ⟨k1, k2⟩ := List.getElem?_eq_some_iff.1 hk
      rcases Nat.lt_trichotomy k q with h | h | h
      · have := List.pairwise_iff_getElem.1 hL k q k1 hq h; rw [k2] at this; omega
      · exact absurd h e
      · have := List.pairwise_iff_getElem.1 hL q k hq k1 h; rw [k2] at this; omega
    · rw [List.getElem?_eq_none (by omega)]; rfl
def whyI (k j : Nat) : Int := if k = j then 1 else 5
def SvTPost (v : Value) (b : Nat) (at_ : Int) (S' : St) (O' : List Tg) (m' : List (Int × Acc)) (Sp : SP) (R : List SP) (w : World) (e : Ending) (w' : World) : Prop :=
  ∃ P', Ret v (IwT P' b at_ S' O' m' :: P' :: Sp :: R) w e w'

set_option maxHeartbeats 6400000 in
set_option maxRecDepth 100000 in
theorem refServeI_spec {aB : Option Addr} {cB k j : Nat} {tk tj : Tg} {x y : Head} {a : Option Addr} {n c : Nat} {H : List Head} {S' : St} {O' : List Tg} {m' : List (Int × Acc)} (hm : AccOk m) (hok : LOk S.L) (hk : S.L[k]? = some tk) (hj : S.L[j]? = some tj) (hx : H[j]? = some x) (hy : H[k]? = some y) (hyf : y.f = tk.f) (hxf : x.f = tj.f) (hn : n = H.length) (hl0 : 1 ≤ x.len) (hl1 : x.len ≤ 4096) (h1 : HeadsAt Sp a H)
    (hB : ∀ (P : SP) (b : Nat) (w : World) (R : List SP), Own w (RefT P b at_ S.L O S.tm S.aw :: P :: R) → Calls Tryz.prog 116 #[.pointer (some ⟨b, 0, none⟩), .int .i64 tk.f, .int .i64 x.len] w (SetWT b at_ S'.L O' S'.tm S'.aw P R w 0))
    (hf : S.L.map (·.f) = S'.L.map (·.f)) (hm' : ∀ t ∈ S.L, accO (mput (mput m tk.f (accP (accO m tk.f) x.len)) tj.f (accP (accO (mput m tk.f (accP (accO m tk.f) x.len)) tj.f) (-x.len))) t.f = accO m' t.f)
    (o : Own w (IwTc b pr aB S.L.length cB :: RefT P pr at_ S.L O S.tm S.aw :: bdS aB cB m S.L :: P :: Sp :: R)) :
    Calls Tryz.prog 133 #[.pointer (some ⟨b, 0, none⟩), .int .i64 (k : Int), .int .i64 (j : Int), .slice a n c] w (SvTPost (.tuple #[chV ⟨tk.f, tj.f, whyI k j⟩, .int .i64 0]) b at_ S' O' m' Sp R w) := by
  have hkl := (List.getElem?_eq_some_iff.1 hk).1
  have hjl := (List.getElem?_eq_some_iff.1 hj).1
  have hjn : j < n := by rw [hn]; exact (List.getElem?_eq_some_iff.1 hx).1
  have hkn : k < n := by rw [hn]; exact (List.getElem?_eq_some_iff.1 hy).1
  have hlen := hok.len
  have oA : Own (w.alloc (.cells #[.int .i64 0, .int .i64 0, .int .i64 0] 38)) (choC w.heap.size 0 0 0 :: IwTc b pr aB S.L.length cB :: RefT P pr at_ S.L O S.tm S.aw :: bdS aB cB m S.L :: P :: Sp :: R) := o.alloc _
  obtain ⟨gh, rfl, d0, d1, d2⟩ := h1 _ _ (oA.up 5) j _ hx
  obtain ⟨gh', hgh, e0, _, _⟩ := h1 _ _ (oA.up 5) k _ hy
  cases hgh
  rw [hyf] at e0
  have b0 := o.cell 0
  have b1 := o.cell 1
  have bl := o.celLt
  have hcall := hB P pr _ _ (oA.drew.re [2, 4])
  clear hB
  have HX := Lib.hid hx
  have HY := Lib.hid hy
  have HN := Lib.hid hn
  clear hx hy hn
  go_enter Tryz.func133, Tryz.ntmps133
  go_upto_region 2 with fail
  refine wp_region_tail 10 (by kernel_rfl) (by kernel_rfl) ?_
  simp only [List.take_succ_cons, List.take_zero, List.drop_succ_cons, List.drop_zero]
  repeat still_step
  refine wpStill_nil ?_
  go_wp2_with fail
  refine hcall.mono ?_
  rintro e1 w1 ⟨P', _, rfl, o1, k1⟩
  have K1 : Calm w w1 := (qcalm_drew (qcalm_alloc (Calm.refl w))).trans k1
  clear hcall d0 d1 d2 b0 b1 bl e0 oA k1
  have oZ := slc_zero (e := 145) (size := 4) (o1.alloc (.cells #[] 145))
  have b1 := (o1.up 3).cell 1
  have bl := (o1.up 3).celLt
  have hsrc := slc_srcT (bd_one m S.L) (oZ.up 5)
  go_wp2_with (at_builtin; refine wpList_append_src rfl _ _ rfl Tryz.bndT rfl oZ rfl hsrc (by unfold maxLen; omega) (by omega) ?q1)
  case q1 =>
  intro a5 c5 w5 o5 k5
  have K5 := K1.trans ((qcalm_alloc (x := .cells #[] 145) (Calm.refl w1)).trans k5)
  clear oZ hsrc b1 bl o1 K1 k5
  have s1 := (o5.up 4).cell 1
  have sf := (o5.up 4).frozen
  have sl := (o5.up 4).celLt
  have oC := (o5.up 4).setCell 1 (.slice a5 S.L.length c5)
  have KC := qcalm_set (x := ⟨b, 1, none⟩) (v := .slice a5 S.L.length c5) K5
  clear o5 K5
  obtain ⟨A, hA⟩ : ∃ A, accO m tk.f = A := ⟨_, rfl⟩
  have hAr := hm tk.f
  rw [hA] at hAr
  obtain ⟨g, rfl, hcg, hfg, hlg⟩ := (oC.up 1).slc_cell (by omega)
  have u1 := hcg (k * 4 + 1) _ (flat_get (bdC_len m) S.L k 1 tk hk (by omega))
  change World.cell? _ ⟨g, k * 4 + 1, none⟩ = some (.int .i64 (accO m tk.f).1) at u1
  rw [hA] at u1
  have uf := hfg (k * 4 + 1)
  have c1 := oC.cell 1
  have cl := oC.celLt
  have oD := (oC.up 1).slc_set (k * 4 + 1) (.int .i64 (A.1 + x.len)) (by rw [flat_length (bdC_len m)]; omega)
  rw [bd_set hok.asc hk] at oD
  rw [hA] at oD
  have oD : Own _ (slc 145 4 (some ⟨g, 0, none⟩) S.L.length c5 (flat (bdC (mput m tk.f (A.1 + x.len, A.2))) S.L) :: IwTc b pr (some ⟨g, 0, none⟩) S.L.length c5 :: RefT P' pr at_ S'.L O' S'.tm S'.aw :: P' :: choC w.heap.size 0 0 0 :: bdS aB cB m S.L :: Sp :: R) := oD
  obtain ⟨m1, hm1⟩ : ∃ m1, mput m tk.f (A.1 + x.len, A.2) = m1 := ⟨_, rfl⟩
  rw [hm1] at oD
  have hm1e : mput m tk.f (accP (accO m tk.f) x.len) = m1 := by rw [hA]; exact hm1
  rw [hm1e] at hm'
  obtain ⟨D, hD⟩ : ∃ D, accO m1 tj.f = D := ⟨_, rfl⟩
  rw [hD] at hm'
  have hDr : -1099511627776 ≤ D.1 ∧ D.1 ≤ 1099511631872 := by
    rw [← hD, ← hm1, accO_mput]
    have := hm tj.f
    split
    · dsimp only; omega
    · omega
  obtain ⟨g2, hg2, hcg2, hfg2, _⟩ := oD.slc_cell (by omega)
  cases hg2
  have v1 := hcg2 (j * 4 + 1) _ (flat_get (bdC_len m1) S.L j 1 tj hj (by omega))
  change World.cell? _ ⟨g, j * 4 + 1, none⟩ = some (.int .i64 (accO m1 tj.f).1) at v1
  rw [hD] at v1
  have vf := hfg2 (j * 4 + 1)
  have y1 := (oD.up 1).cell 1
  have yl := (oD.up 1).celLt
  have oE := oD.slc_set (j * 4 + 1) (.int .i64 (D.1 - x.len)) (by rw [flat_length (bdC_len m1)]; omega)
  rw [bd_set hok.asc hj, hD] at oE
  have wA := IntWalk.i64_in (A.1 + x.len) (by omega)
  have wD := IntWalk.i64_in (D.1 - x.len) (by omega)
  have hfin : flat (bdC (mput m1 tj.f (D.1 - x.len, D.2))) S.L = flat (bdC m') S'.L := flat_bd hf fun t ht => by rw [← hm' t ht]; unfold accP; rw [Int.sub_eq_add_neg]
  have hll : S'.L.length = S.L.length := by have := congrArg List.length hf; simpa using this.symm
  have HFIN := Lib.hid hfin
  have HLL := Lib.hid hll
  have KE := qcalm_set (x := ⟨g, j * 4 + 1, none⟩) (v := .int .i64 (D.1 - x.len)) (qcalm_set (x := ⟨g, k * 4 + 1, none⟩) (v := .int .i64 (A.1 + x.len)) KC)
  obtain ⟨gx, hgx, f0, f1, f2⟩ := h1 _ _ (oE.drew.up 6) j _ HX.out
  cases hgx
  obtain ⟨gy, hgy, i0, i1, i2⟩ := h1 _ _ (oE.drew.up 6) k _ HY.out
  cases hgy
  rw [hxf] at f0
  rw [hyf] at i0
  have z0 := Own.cell (T := 38) (vs := [.int .i64 0, .int .i64 0, .int .i64 0]) (oE.drew.up 4) 0
  have z1 := Own.cell (T := 38) (vs := [.int .i64 0, .int .i64 0, .int .i64 0]) (oE.drew.up 4) 1
  have z2 := Own.cell (T := 38) (vs := [.int .i64 0, .int .i64 0, .int .i64 0]) (oE.drew.up 4) 2
  have zf := Own.frozen (T := 38) (vs := [.int .i64 0, .int .i64 0, .int .i64 0]) (oE.drew.up 4)
  have zl := Own.celLt (T := 38) (vs := [.int .i64 0, .int .i64 0, .int .i64 0]) (oE.drew.up 4)
  have hmm1 := Lib.hid hm1
  clear hfin hll hm1 hm1e hm' hA hD hf hcg hfg hcg2 hfg2 hyf hxf hk hj h1 hm hok KC o
  by_cases hkj : k = j
  · skip
    have hw : whyI k j = 1 := if_pos hkj
    have HW := Lib.hid hw
    have e1 : ((k : Int) == (j : Int)) = true := by rw [hkj]; simp
    clear hw hkj
    go_upto_region 9 with fail
    refine wp_region_tail 10 (by kernel_rfl) (by kernel_rfl) ?_
    simp only [List.take_succ_cons, List.take_zero, List.drop_succ_cons, List.drop_zero]
    repeat still_step
    refine wpStill_nil ?_
    have oEd := oE.drew
    have KEd := qcalm_drew KE
    clear oE KE oD f0 f1 f2 i0 i1 i2 u1 uf c1 cl v1 vf y1 yl s1 sf sl
    generalize (((w5.setCell ⟨b, 1, none⟩ (.slice (some ⟨g, 0, none⟩) S.L.length c5)).setCell ⟨g, k * 4 + 1, none⟩ (.int .i64 (A.1 + x.len))).setCell ⟨g, j * 4 + 1, none⟩ (.int .i64 (D.1 - x.len))).drew = Wd at *
    have oF := choSet (x := tk.f) (y := tj.f) (z := 1) (oEd.up 4)
    go_wp2
    refine bodyPost_ret (v := .tuple #[chV ⟨tk.f, tj.f, 1⟩, .int .i64 0]) ?_ rfl ?_
    · exact chRow8 (p := w.heap.size) rfl rfl rfl oF
    · refine ⟨P', by rw [HW.out], IwT.iff.2 ⟨pr, some ⟨g, 0, none⟩, c5, ?_⟩, qcalm_set (qcalm_set (qcalm_set KEd))⟩
      have oG := (oF.re [0, 5] 2).re [1, 2, 0]
      show Own _ (IwTc b pr (some ⟨g, 0, none⟩) S'.L.length c5 :: RefT P' pr at_ S'.L O' S'.tm S'.aw :: slc 145 4 (some ⟨g, 0, none⟩) S'.L.length c5 (flat (bdC m') S'.L) :: P' :: Sp :: R)
      rw [HLL.out, ← HFIN.out]
      exact oG
  · skip
    have hw : whyI k j = 5 := if_neg hkj
    have HW := Lib.hid hw
    have e1 : ((k : Int) == (j : Int)) = false := by rw [beq_eq_false_iff_ne]; omega
    have e2 : ¬ k = j := hkj
    clear hw hkj
    go_upto_region 10 with fail
    refine wp_region_tail 10 (by kernel_rfl) (by kernel_rfl) ?_
    simp only [List.take_succ_cons, List.take_zero, List.drop_succ_cons, List.drop_zero]
    repeat still_step
    refine wpStill_nil ?_
    have oEd := oE.drew
    have KEd := qcalm_drew KE
    clear oE KE oD f0 f1 f2 i0 i1 i2 u1 uf c1 cl v1 vf y1 yl s1 sf sl
    generalize (((w5.setCell ⟨b, 1, none⟩ (.slice (some ⟨g, 0, none⟩) S.L.length c5)).setCell ⟨g, k * 4 + 1, none⟩ (.int .i64 (A.1 + x.len))).setCell ⟨g, j * 4 + 1, none⟩ (.int .i64 (D.1 - x.len))).drew = Wd at *
    have oF := choSet (x := tk.f) (y := tj.f) (z := 5) (oEd.up 4)
    go_wp2
    refine bodyPost_ret (v := .tuple #[chV ⟨tk.f, tj.f, 5⟩, .int .i64 0]) ?_ rfl ?_
    · exact chRow8 (p := w.heap.size) rfl rfl rfl oF
    · refine ⟨P', by rw [HW.out], IwT.iff.2 ⟨pr, some ⟨g, 0, none⟩, c5, ?_⟩, qcalm_set (qcalm_set (qcalm_set KEd))⟩
      have oG := (oF.re [0, 5] 2).re [1, 2, 0]
      show Own _ (IwTc b pr (some ⟨g, 0, none⟩) S'.L.length c5 :: RefT P' pr at_ S'.L O' S'.tm S'.aw :: slc 145 4 (some ⟨g, 0, none⟩) S'.L.length c5 (flat (bdC m') S'.L) :: P' :: Sp :: R)
      rw [HLL.out, ← HFIN.out]
      exact oG
end
end Go.Proofs.YtkmlkpfabkhleaaGreat

/- The reference of iwfq: New, SetBounds. -/
namespace Go.Proofs.YtkmlkpfabkhleaaGreat
open Go.RowKit
open SP
section
variable {w w' : World} {R : List SP} {b pr : Nat} {at_ : Int} {O : List Tg} {P Sp : SP} {S : St} {m : List (Int × Acc)}

set_option maxHeartbeats 800000 in
set_option maxRecDepth 100000 in
theorem refNewI_spec (r : Int) (h1 : 1 ≤ r) (h2 : r ≤ 1099511627776) {S : St} (hL : S.L = []) (ht : S.tm = 0) (ha : S.aw = 0) (o : Own w (P :: R)) :
    Calls Tryz.prog 27 #[.int .i64 r] w fun e w' => ∃ b, Ret (.tuple #[.pointer (some ⟨b, 0, none⟩), .int .i64 0]) (IwT P b r S [] [] :: P :: R) w e w' := by
  go_enter Tryz.func27, Tryz.ntmps27
  go_wp2_with fail
  refine (refNew12_spec (P := P) r h1 h2 o).mono ?_
  rintro e1 w1 ⟨rp, rfl, o1, k1⟩
  have oY := o1.alloc (.cells #[.pointer (some ⟨rp, 0, none⟩), .slice none 0 0] 80)
  go_wp2
  go_ret2
  refine ⟨w1.heap.size, rfl, IwT.iff.2 ⟨rp, none, 0, ?_⟩, qcalm_alloc k1⟩
  rw [hL, ht, ha]
  exact (Own.slc_nil oY).re [1, 2, 0]

/-- New bounds: the code, the accounts behind them. -/
def setBI (m : List (Int × Acc)) (L : List Tg) (f x y : Int) : Int × List (Int × Acc) :=
  if fget L f = none then (6, m) else if bndI x y = false then (1, m) else if x < (accO m f).1 ∨ (accO m f).1 < -y then (14, m) else (0, mput m f ((accO m f).1, x, y))
theorem bd_set2 {L : List Tg} (hL : L.Pairwise (fun a b => a.f < b.f)) {k : Nat} {tk : Tg} (hk : L[k]? = some tk) (x y : Int) :
    ((flat (bdC m) L).set (k * 4 + 2) (.int .i64 x)).set (k * 4 + 3) (.int .i64 y) = flat (bdC (mput m tk.f ((accO m tk.f).1, x, y))) L := by
  have hkl := (List.getElem?_eq_some_iff.1 hk).1
  have e1 := flat_set bdV_len (L.map fun t => (t.f, accO m t.f)) k 2 (tk.f, accO m tk.f) (tk.f, ((accO m tk.f).1, x, (accO m tk.f).2.2)) (.int .i64 x) (by rw [List.getElem?_map, hk]; rfl) (by omega) rfl
  have e2 := flat_set bdV_len ((L.map fun t => (t.f, accO m t.f)).set k (tk.f, ((accO m tk.f).1, x, (accO m tk.f).2.2))) k 3 (tk.f, ((accO m tk.f).1, x, (accO m tk.f).2.2)) (tk.f, ((accO m tk.f).1, x, y)) (.int .i64 y) (by rw [List.getElem?_set_self (by rw [List.length_map]; exact hkl)]) (by omega) rfl
  rw [flat_bdV, flat_bdV, ← e1, ← e2, List.set_set]
  congr 1
  refine List.ext_getElem? fun q => ?_
  rw [List.getElem?_set, List.length_map]
  by_cases e : k = q
  · subst e
    rw [if_pos rfl, if_pos hkl, List.getElem?_map, hk]
    show some (tk.f, ((accO m tk.f).1, x, y)) = some (tk.f, accO (mput m tk.f ((accO m tk.f).1, x, y)) tk.f)
    rw [accO_mput, if_pos rfl]
  · rw [if_neg e, List.getElem?_map, List.getElem?_map]
    by_cases hq : q < L.length
    · rw [List.getElem?_eq_getElem hq]
      show some (L[q].f, accO m L[q].f) = some (L[q].f, accO (mput m tk.f ((accO m tk.f).1, x, y)) L[q].f)
      rw [accO_mput, if_neg]
      obtain ⟨k1, k2⟩ := List.getElem?_eq_some_iff.1 hk
      rcases Nat.lt_trichotomy k q with h | h | h
      · have := List.pairwise_iff_getElem.1 hL k q k1 hq h; rw [k2] at this; omega
      · exact absurd h e
      · have := List.pairwise_iff_getElem.1 hL q k hq k1 h; rw [k2] at this; omega
    · rw [List.getElem?_eq_none (by omega)]; rfl

set_option maxHeartbeats 3200000 in
set_option maxRecDepth 100000 in
theorem refSetB_none {f x y : Int} (hok : LOk S.L) (hf : fget S.L f = none) (o : Own w (IwT P b at_ S O m :: P :: R)) :
    Calls Tryz.prog 35 #[.pointer (some ⟨b, 0, none⟩), .int .i64 f, .int .i64 x, .int .i64 y] w (IsRet (.int .i64 6) w) := by
  obtain ⟨pr, aB, cB, o1⟩ := IwT.iff.1 o
  have hlen := hok.len
  have c0 := o1.cell 0
  have hi := index_spec f (by omega) (o1.re [1, 3])
  rw [idxT_none 0 _ hf] at hi
  go_enter Tryz.func35, Tryz.ntmps35
  go_wp2_with fail
  refine hi.mono ?_
  rintro e1 w1 ⟨rfl, rfl⟩
  go_wp2
  go_ret
  exact ⟨rfl, rfl⟩
set_option maxHeartbeats 3200000 in
set_option maxRecDepth 100000 in
theorem refSetB_bad {f x y : Int} {t : Tg} (hok : LOk S.L) (hf : fget S.L f = some t) (hb : bndI x y = false) (o : Own w (IwT P b at_ S O m :: P :: R)) :
    Calls Tryz.prog 35 #[.pointer (some ⟨b, 0, none⟩), .int .i64 f, .int .i64 x, .int .i64 y] w (IsRet (.int .i64 1) w) := by
  obtain ⟨pr, aB, cB, o1⟩ := IwT.iff.1 o
  have hlen := hok.len
  have c0 := o1.cell 0
  obtain ⟨i, hit, hix⟩ := idxT_some 0 S.L hf
  have hi := index_spec f (by omega) (o1.re [1, 3])
  rw [hix, Nat.zero_add] at hi
  have hbo := boundsOK_spec x y w
  rw [hb] at hbo
  go_enter Tryz.func35, Tryz.ntmps35
  go_wp2_with fail
  refine hi.mono ?_
  rintro e1 w1 ⟨rfl, rfl⟩
  go_wp2_with fail
  refine hbo.mono ?_
  rintro e2 w2 ⟨rfl, rfl⟩
  go_wp2
  go_ret
  exact ⟨rfl, rfl⟩
theorem bndI_rng {x y : Int} (h : bndI x y = true) : 0 ≤ x ∧ x ≤ 1099511627776 ∧ 0 ≤ y ∧ y ≤ 1099511627776 := by
  unfold bndI at h
  simp only [Bool.and_eq_true, decide_eq_true_eq] at h
  exact ⟨h.1.1.1, h.1.1.2, h.1.2, h.2⟩
set_option maxHeartbeats 3200000 in
set_option maxRecDepth 100000 in
theorem refSetB_state {f x y : Int} {t : Tg} (hok : LOk S.L) (hf : fget S.L f = some t) (htf : t.f = f) (hb : bndI x y = true) (hs : x < (accO m f).1 ∨ (accO m f).1 < -y) (o : Own w (IwT P b at_ S O m :: P :: R)) :
    Calls Tryz.prog 35 #[.pointer (some ⟨b, 0, none⟩), .int .i64 f, .int .i64 x, .int .i64 y] w (IsRet (.int .i64 14) w) := by
  obtain ⟨pr, aB, cB, o1⟩ := IwT.iff.1 o
  have hlen := hok.len
  have c0 := o1.cell 0
  have c1 := o1.cell 1
  obtain ⟨i, hit, hix⟩ := idxT_some 0 S.L hf
  have hi := index_spec f (by omega) (o1.re [1, 3])
  rw [hix, Nat.zero_add] at hi
  have hil := (List.getElem?_eq_some_iff.1 hit).1
  obtain ⟨g, rfl, hcg, _, _⟩ := (o1.up 2).slc_cell (by omega)
  have k1 := hcg (i * 4 + 1) _ (flat_get (bdC_len m) S.L i 1 t hit (by omega))
  change World.cell? _ ⟨g, i * 4 + 1, none⟩ = some (.int .i64 (accO m t.f).1) at k1
  rw [htf] at k1
  generalize (accO m f).1 = A at *
  have hbo := boundsOK_spec x y w
  rw [hb] at hbo
  obtain ⟨q0, q1, q2, q3⟩ := bndI_rng hb
  have wy := IntWalk.i64_in (-y) (by omega)
  have HIX := Lib.hid hix
  have HIT := Lib.hid hit
  clear hix hit hcg hb
  by_cases hx : x < A
  · clear hs
    go_enter Tryz.func35, Tryz.ntmps35
    go_wp2_with fail
    refine hi.mono ?_
    rintro e1 w1 ⟨rfl, rfl⟩
    go_wp2_with fail
    refine hbo.mono ?_
    rintro e2 w2 ⟨rfl, rfl⟩
    go_wp2
    go_ret
    exact ⟨rfl, rfl⟩
  · have hy : A < -y := hs.resolve_left hx
    clear hs
    go_enter Tryz.func35, Tryz.ntmps35
    go_wp2_with fail
    refine hi.mono ?_
    rintro e1 w1 ⟨rfl, rfl⟩
    go_wp2_with fail
    refine hbo.mono ?_
    rintro e2 w2 ⟨rfl, rfl⟩
    go_wp2
    go_ret
    exact ⟨rfl, rfl⟩
set_option maxHeartbeats 6400000 in
set_option maxRecDepth 100000 in
theorem refSetB_ok {f x y : Int} {t : Tg} (hok : LOk S.L) (hf : fget S.L f = some t) (htf : t.f = f) (hb : bndI x y = true) (hs : ¬ (x < (accO m f).1 ∨ (accO m f).1 < -y)) (o : Own w (IwT P b at_ S O m :: P :: R)) :
    Calls Tryz.prog 35 #[.pointer (some ⟨b, 0, none⟩), .int .i64 f, .int .i64 x, .int .i64 y] w (Ret (.int .i64 0) (IwT P b at_ S O (mput m f ((accO m f).1, x, y)) :: P :: R) w) := by
  obtain ⟨pr, aB, cB, o1⟩ := IwT.iff.1 o
  have hlen := hok.len
  have c0 := o1.cell 0
  have c1 := o1.cell 1
  obtain ⟨i, hit, hix⟩ := idxT_some 0 S.L hf
  have hi := index_spec f (by omega) (o1.re [1, 3])
  rw [hix, Nat.zero_add] at hi
  have hil := (List.getElem?_eq_some_iff.1 hit).1
  have hst := fun m => bd_set2 (m := m) hok.asc hit x y
  rw [htf] at hst
  obtain ⟨g, rfl, hcg, _, _⟩ := (o1.up 2).slc_cell (by omega)
  have k1 := hcg (i * 4 + 1) _ (flat_get (bdC_len m) S.L i 1 t hit (by omega))
  change World.cell? _ ⟨g, i * 4 + 1, none⟩ = some (.int .i64 (accO m t.f).1) at k1
  rw [htf] at k1
  have hst := hst m
  obtain ⟨A, hA⟩ : ∃ A, (accO m f).1 = A := ⟨_, rfl⟩
  rw [hA] at hst hs k1 ⊢
  have hbo := boundsOK_spec x y w
  rw [hb] at hbo
  obtain ⟨q0, q1, q2, q3⟩ := bndI_rng hb
  have wy := IntWalk.i64_in (-y) (by omega)
  have hx : ¬ x < A := fun e => hs (.inl e)
  have hy : ¬ A < -y := fun e => hs (.inr e)
  have HIX := Lib.hid hix
  have HIT := Lib.hid hit
  have HST := Lib.hid hst
  have HA := Lib.hid hA
  clear hix hit hcg hb hst hA hs
  go_enter Tryz.func35, Tryz.ntmps35
  go_wp2_with fail
  refine hi.mono ?_
  rintro e1 w1 ⟨rfl, rfl⟩
  go_wp2_with fail
  refine hbo.mono ?_
  rintro e2 w2 ⟨rfl, rfl⟩
  have oZ := slc_zero (e := 145) (size := 4) (o1.alloc (.cells #[] 145))
  have bl := o1.celLt
  have hsrc := slc_srcT (bd_one m S.L) (oZ.up 3)
  go_wp2_with (at_builtin; refine wpList_append_src rfl _ _ rfl Tryz.bndT rfl oZ rfl hsrc (by unfold maxLen; omega) (by omega) ?q1)
  case q1 =>
  intro a5 c5 w5 o5 k5
  have hfl : (flat (bdC m) S.L).length = S.L.length * 4 := flat_length (bdC_len m) S.L
  have s0 := (o5.up 1).cell 0
  have s1 := (o5.up 1).cell 1
  have sf := (o5.up 1).frozen
  have sl := (o5.up 1).celLt
  have oC := (o5.up 1).setCell 1 (.slice a5 S.L.length c5)
  have KC := qcalm_set (x := ⟨b, 1, none⟩) (v := .slice a5 S.L.length c5) ((qcalm_alloc (x := .cells #[] 145) (Calm.refl w)).trans k5)
  obtain ⟨g5, rfl, hc5, hf5, hl5⟩ := (oC.up 1).slc_cell (by omega)
  have u2 := hc5 (i * 4 + 2) _ (flat_get (bdC_len m) S.L i 2 t HIT.out (by omega))
  have u3 := hc5 (i * 4 + 3) _ (flat_get (bdC_len m) S.L i 3 t HIT.out (by omega))
  have uf2 := hf5 (i * 4 + 2)
  have uf3 := hf5 (i * 4 + 3)
  have b1 := oC.cell 1
  have oD := (oC.up 1).slc_set (i * 4 + 2) (.int .i64 x) (by omega)
  obtain ⟨g6, hg6, hc6, hf6, hl6⟩ := oD.slc_cell (by omega)
  cases hg6
  have v3 := hc6 (i * 4 + 3) _ (by rw [List.getElem?_set_ne (by omega)]; exact flat_get (bdC_len m) S.L i 3 t HIT.out (by omega))
  have vf3 := hf6 (i * 4 + 3)
  have oE := oD.slc_set (i * 4 + 3) (.int .i64 y) (by rw [List.length_set]; omega)
  rw [HST.out] at oE
  have KE := qcalm_set (x := ⟨g5, i * 4 + 3, none⟩) (v := .int .i64 y) (qcalm_set (x := ⟨g5, i * 4 + 2, none⟩) (v := .int .i64 x) KC)
  clear hc5 hf5 hc6 hf6 o5 k5 KC hsrc oZ
  have d1 := (oD.up 1).cell 1
  have e1 := (oE.up 1).cell 1
  go_upto_region 9 with fail
  go_region_held3 (fun w' => w'.cell? ⟨b, 1, none⟩ = some (.slice (some ⟨g5, 0, none⟩) S.L.length c5)) (go_keep) (fail)
  go_wp2
  go_ret
  refine ⟨rfl, IwT.iff.2 ⟨pr, some ⟨g5, 0, none⟩, c5, ?_⟩, ?_⟩
  · first | exact (oE.re [3] 1).re [1, 2, 0] | exact (oE.drew.re [3] 1).re [1, 2, 0]
  · first | exact KE | exact qcalm_drew KE
end
end Go.Proofs.YtkmlkpfabkhleaaGreat

/- Iwfq, plain: a flow leaves; what all calls keep; the sums of the lags. -/
namespace Go.Proofs.YtkmlkpfabkhleaaGreat
open Go.RowKit
section
variable {N : Nat} {s : Iw} {O : List Tg} {m : List (Int × Acc)}

def capI (had : Int) (m : List (Int × Acc)) (t : Tg) : Int := if 0 < had then (accO m t.f).2.1 - (accO m t.f).1 else (accO m t.f).2.2 + (accO m t.f).1
def give1 (sg : Int) (m : List (Int × Acc)) (p : Tg × Int) : List (Int × Acc) := mput m p.1.f (accP (accO m p.1.f) (sg * p.2))
def giveI (sg : Int) (z : List (Tg × Int)) (m : List (Int × Acc)) : List (Int × Acc) := z.foldl (give1 sg) m
def sgI (had : Int) : Int := if had < 0 then -1 else 1
/-- What the others get when a flow with this lag is gone. -/
def gvI (had : Int) (m1 : List (Int × Acc)) (L : List Tg) : List Int := (fillI (sgI had * had) (L.map (·.w)) (L.map (capI had m1))).1
def handI (had : Int) (m1 : List (Int × Acc)) (L : List Tg) : List (Int × Acc) := giveI (sgI had) (L.zip (gvI had m1 L)) m1
/-- Leave. -/
def leaveI (s : Iw) (f : Int) : (Int × Int) × Iw :=
  if fget s.R.L f = none then ((0, 6), s)
  else (((accO s.m f).1, 0), ⟨(leaveR s.R f).2, handI (accO s.m f).1 (mdel s.m f) (leaveR s.R f).2.L⟩)

theorem sgI_mul (had : Int) : sgI had * had = max had (-had) := by
  unfold sgI
  split
  · rw [Int.neg_one_mul]; omega
  · rw [Int.one_mul]; omega
theorem accO_mdel (hu : Uniq m) (f g : Int) : accO (mdel m f) g = if g = f then (0, 0, 0) else accO m g := by
  unfold accO
  rw [mget_mdel hu]
  split <;> rfl
theorem mput_uniq (hu : Uniq m) (k : Int) (a : Acc) : Uniq (mput m k a) := by
  unfold Uniq at *
  rw [mput_keys]
  split
  · exact hu
  · rename_i h
    rw [List.nodup_append]
    refine ⟨hu, by simp, fun x hx y hy e => ?_⟩
    rw [List.mem_singleton] at hy
    subst hy; subst e
    exact h hx
theorem mdel_uniq (hu : Uniq m) (k : Int) : Uniq (mdel m k) := by
  unfold Uniq at *
  rw [mdel_keys]
  exact hu.erase _
/-- What all calls keep. -/
structure IwS (N : Nat) (s : Iw) (O : List Tg) : Prop where
  rel : RelT N s.R O
  tb : TB N s.R
  acc : ∀ f, accIn (accO s.m f)
  un : Uniq s.m
  ks : (s.m.map (·.1)).Perm (s.R.L.map (·.f))
  sum : sumI (s.R.L.map fun t => (accO s.m t.f).1) = 0
theorem IwS.start : IwS 0 iw0 [] := ⟨RelT.start, TB.start, fun f => by rw [show accO iw0.m f = (0, 0, 0) from rfl]; unfold accIn; decide, List.nodup_nil, .refl _, rfl⟩
theorem IwS.next (h : IwS N s O) : IwS (N + 1) s O := ⟨h.rel.next, h.tb.next, h.acc, h.un, h.ks, h.sum⟩
theorem IwS.accOk (h : IwS N s O) : AccOk s.m := fun f => by have := h.acc f; unfold accIn at this; omega
theorem IwS.get (h : IwS N s O) {t : Tg} (ht : t ∈ s.R.L) : ∃ a, mget s.m t.f = some a := by
  have : t.f ∈ s.m.map (·.1) := h.ks.mem_iff.2 (List.mem_map.2 ⟨t, ht, rfl⟩)
  obtain ⟨x, hx, e⟩ := List.mem_map.1 this
  exact ⟨x.2, by rw [← e]; exact mget_mem h.un hx⟩
theorem IwS.inv (h : IwS N s O) : IwInv N s := ⟨h.tb, h.acc, fun _ ht => h.get ht⟩
/-- The sum over the map is that over the flows. -/
theorem IwS.sumM (h : IwS N s O) : sumI (s.m.map fun p => p.2.1) = 0 := by
  have e : s.m.map (fun p => p.2.1) = (s.m.map (·.1)).map fun f => (accO s.m f).1 := by
    rw [List.map_map]
    refine List.map_congr_left fun p hp => ?_
    show p.2.1 = (accO s.m p.1).1
    unfold accO
    rw [mget_mem h.un hp]
    rfl
  rw [e, sumI_perm (h.ks.map _), List.map_map]
  exact h.sum

theorem insT_perm (x : Tg) : ∀ L : List Tg, (insT x L).Perm (x :: L)
  | [] => .refl _
  | t :: L => by
    unfold insT
    split
    · exact ((insT_perm x L).cons t).trans (.swap x t L)
    · exact .refl _
theorem sum_mput {L : List Tg} (hL : L.Pairwise fun a b => a.f < b.f) (k : Int) (a : Acc) : ∀ _ : k ∈ L.map (·.f), sumI (L.map fun t => (accO (mput m k a) t.f).1) = sumI (L.map fun t => (accO m t.f).1) - (accO m k).1 + a.1 := by
  induction L with
  | nil => intro h; simp at h
  | cons t L ih =>
    intro h
    rw [List.pairwise_cons] at hL
    rw [List.map_cons, List.map_cons, sumI_cons, sumI_cons, accO_mput]
    by_cases e : t.f = k
    · have hc : L.map (fun t => (accO (mput m k a) t.f).1) = L.map fun t => (accO m t.f).1 := List.map_congr_left fun u hu => by
        have := hL.1 u hu
        show (accO (mput m k a) u.f).1 = _
        rw [accO_mput, if_neg (by omega)]
      rw [hc, if_pos e, e]
      omega
    · rw [if_neg e]
      rw [List.map_cons] at h
      have := ih hL.2 ((List.mem_cons.1 h).resolve_left fun x => e x.symm)
      omega
theorem keys_mput_perm {K : List Int} (h : (m.map (·.1)).Perm K) {k : Int} (hk : k ∈ K) (a : Acc) : ((mput m k a).map (·.1)).Perm K := by
  rw [mput_keys, if_pos (h.mem_iff.2 hk)]
  exact h

/-- The reference joins, a flow less. -/
theorem IwS.join (h : IwS N s O) {O' : List Tg} {f wt x y : Int} (hr : RelT (N + 1) (joinS s.R f wt) O') (he : joinE s.R f wt = 0) (hb : bndI x y = true) : IwS (N + 1) ⟨joinS s.R f wt, mput s.m f (0, x, y)⟩ O' := by
  have hno := (h.rel.ok.join he).2.1
  have hnf : ∀ t ∈ s.R.L, t.f ≠ f := fget_none.1 hno
  have hnm : f ∉ s.m.map (·.1) := fun hm => by
    obtain ⟨t, ht, e⟩ := List.mem_map.1 (h.ks.mem_iff.1 hm)
    exact hnf t ht e
  have hp := insT_perm ⟨f, wt, max s.R.tm (s.R.old f)⟩ s.R.L
  refine ⟨hr, (h.tb.join he).next, fun g => ?_, mput_uniq h.un _ _, ?_, ?_⟩
  · dsimp only
    rw [accO_mput]
    split
    · unfold bndI at hb
      simp only [Bool.and_eq_true, decide_eq_true_eq] at hb
      unfold accIn
      dsimp only
      omega
    · exact h.acc g
  · dsimp only
    rw [mput_keys, if_neg hnm]
    have h1 : (s.m.map (·.1) ++ [f]).Perm (f :: s.m.map (·.1)) := List.perm_append_comm (l₁ := s.m.map (·.1)) (l₂ := [f])
    exact (h1.trans (h.ks.cons f)).trans (hp.map (fun t : Tg => t.f)).symm
  · dsimp only
    rw [sumI_perm ((show (joinS s.R f wt).L.Perm _ from hp).map _), List.map_cons, sumI_cons, accO_mput, if_pos rfl]
    have : s.R.L.map (fun t => (accO (mput s.m f (0, x, y)) t.f).1) = s.R.L.map fun t => (accO s.m t.f).1 := List.map_congr_left fun t ht => by
      show (accO (mput s.m f (0, x, y)) t.f).1 = _
      rw [accO_mput, if_neg (hnf t ht)]
    rw [this, h.sum]
    rfl
theorem IwS.joinI (h : IwS N s O) (reb f wt x y : Int) (hN : N ≤ 1000) : ∃ O', IwS (N + 1) (joinI s f wt x y).2 O' := by
  unfold Go.Proofs.YtkmlkpfabkhleaaGreat.joinI
  split
  · exact ⟨O, h.next⟩
  · rename_i hb
    split
    · rename_i he
      obtain ⟨er, S', O', e, hr, _⟩ := join_both h.rel hN reb f wt
      have : S' = joinS s.R f wt := by unfold joinR at e; rw [if_pos he] at e; exact (congrArg Prod.snd e).symm
      rw [this] at hr
      exact ⟨O', h.join hr he (by simpa using hb)⟩
    · exact ⟨O, h.next⟩
theorem TB.setL {S : St} {i : Nat} (h : TB i S) {L : List Tg} (hok : StOk { S with L := L }) (hs : ∀ t ∈ L, ∃ u ∈ S.L, t.s = u.s) : TB i { S with L := L } :=
  ⟨hok, fun t ht => by obtain ⟨u, hu, e⟩ := hs t ht; rw [e]; exact h.act u hu, h.tm, h.old, h.aw0, h.aw1⟩
theorem setT_flows {x : Tg} : ∀ {L : List Tg}, (setT x L).map (·.f) = L.map (·.f)
  | [] => rfl
  | t :: L => by
    show (if t.f = x.f then x else t).f :: (setT x L).map (·.f) = t.f :: L.map (·.f)
    rw [setT_flows]
    congr 1
    split
    · rename_i e; exact e.symm
    · rfl
theorem sum_flows {L L' : List Tg} (h : L.map (·.f) = L'.map (·.f)) (m : List (Int × Acc)) : sumI (L.map fun t => (accO m t.f).1) = sumI (L'.map fun t => (accO m t.f).1) := by
  have e : ∀ L : List Tg, L.map (fun t => (accO m t.f).1) = (L.map (·.f)).map fun f => (accO m f).1 := fun L => by rw [List.map_map]; rfl
  rw [e, e, h]
/-- Other weights. -/
theorem IwS.setW (h : IwS N s O) (_ : N ≤ 1000) (reb f wt : Int) : ∃ O', IwS (N + 1) ⟨(setWR s.R f wt).2, s.m⟩ O' := by
  obtain ⟨er, S', O', e, hr, _⟩ := setW_both h.rel reb f wt
  rw [e]
  refine ⟨O', ?_⟩
  unfold setWR at e
  cases hf : fget s.R.L f with
  | none =>
    rw [hf] at e
    have := (congrArg Prod.snd e).symm
    dsimp only at this
    subst this
    exact ⟨hr, h.next.tb, h.acc, h.un, h.ks, h.sum⟩
  | some t =>
    rw [hf] at e
    dsimp only at e
    split at e
    · have := (congrArg Prod.snd e).symm
      dsimp only at this
      subst this
      exact ⟨hr, h.next.tb, h.acc, h.un, h.ks, h.sum⟩
    · have := (congrArg Prod.snd e).symm
      dsimp only at this
      subst this
      have ht := (fget_some hf).1
      have hfl : (setT ⟨t.f, wt, t.s⟩ s.R.L).map (·.f) = s.R.L.map (·.f) := setT_flows
      refine ⟨hr, (h.tb.setL hr.ok fun u hu => ?_).next, h.acc, h.un, ?_, ?_⟩
      · rcases mem_setT hu with rfl | ⟨hu, _⟩
        · exact ⟨t, ht, rfl⟩
        · exact ⟨u, hu, rfl⟩
      · dsimp only
        rw [hfl]
        exact h.ks
      · dsimp only
        rw [sum_flows hfl]
        exact h.sum
/-- Other bounds. -/
theorem IwS.setB (h : IwS N s O) (f x y : Int) : IwS (N + 1) ⟨s.R, (setBI s.m s.R.L f x y).2⟩ O := by
  unfold setBI
  split
  · exact h.next
  · rename_i hf
    split
    · exact h.next
    · rename_i hb
      split
      · exact h.next
      · rename_i hs
        obtain ⟨t, ht⟩ := Option.ne_none_iff_exists'.1 hf
        obtain ⟨hm, htf⟩ := fget_some ht
        have hk : f ∈ s.R.L.map (·.f) := List.mem_map.2 ⟨t, hm, htf⟩
        refine ⟨h.rel.next, h.tb.next, fun g => ?_, mput_uniq h.un _ _, keys_mput_perm h.ks hk _, ?_⟩
        · dsimp only
          rw [accO_mput]
          split
          · have := bndI_rng (x := x) (y := y) (by simpa using hb)
            unfold accIn
            dsimp only
            omega
          · exact h.acc g
        · dsimp only
          rw [sum_mput h.rel.ok.ok.asc _ _ hk, h.sum]
          show 0 - _ + (accO s.m f).1 = 0
          omega

/-- A slot. -/
theorem IwS.step (h : IwS N s O) (hN : N ≤ 371) (reb : Int) (H : List Head) : ∃ O', IwS (N + 1) (stepI reb s H).2.2 O' := by
  by_cases hf : fitsH s.R.L H = true
  · by_cases hne : H = []
    · unfold stepI
      rw [if_neg (by rw [hf]; simp), if_pos hne]
      exact ⟨O, h.next⟩
    · obtain ⟨f1, f2⟩ := fits_len hf
      obtain ⟨_, hI, hp⟩ := h.inv.step (reb := reb) hN hf hne
      have hfl : (stepI reb s H).2.2.R.L.map (·.f) = s.R.L.map (·.f) := by
        have := congrArg (List.map Prod.fst) hp
        rw [List.map_map, List.map_map] at this
        exact this
      rw [stepI_eq hf hne] at hI hfl ⊢
      cases hpr : pairI (okI s.m H) (srtK (svcI s.m) s.R.L) (srtK (·.s) s.R.L) with
      | none => exact ⟨O, h.next⟩
      | some kj =>
        obtain ⟨k, j⟩ := kj
        obtain ⟨m1, m2, m3⟩ := pairI_mem hpr
        rw [hpr] at hI hfl
        dsimp only at hI hfl ⊢
        unfold okI at m3
        rw [Bool.and_eq_true] at m3
        obtain ⟨x, hx, hxj, hxe⟩ := headOf_good m3.1
        have hl := f2 x hx
        rw [hxe] at hI hfl ⊢
        obtain ⟨c1, c2, c3⟩ := h.tb.charge hN (srtK_mem.1 m1) hl.1 hl.2 reb
        rw [if_neg (by rw [c1]; simp)] at hI hfl ⊢
        obtain ⟨er, S', O', e, hr, _⟩ := charge_both h.rel (by omega) reb k.f x.len
        have hS : S' = (chargeR reb s.R k.f x.len).2 := by rw [e]
        rw [hS] at hr
        have hkk : k.f ∈ s.R.L.map (·.f) := List.mem_map.2 ⟨k, srtK_mem.1 m1, rfl⟩
        have hjj : j.f ∈ s.R.L.map (·.f) := List.mem_map.2 ⟨j, srtK_mem.1 m2, rfl⟩
        by_cases hkj : k.f = j.f
        · rw [if_pos hkj] at hI hfl ⊢
          refine ⟨O', hr, hI.tb, hI.acc, h.un, ?_, ?_⟩
          · rw [hfl]; exact h.ks
          · rw [sum_flows hfl]; exact h.sum
        · rw [if_neg hkj] at hI hfl ⊢
          refine ⟨O', hr, hI.tb, hI.acc, mput_uniq (mput_uniq h.un _ _) _ _, ?_, ?_⟩
          · rw [hfl]; exact keys_mput_perm (keys_mput_perm h.ks hkk _) hjj _
          · rw [sum_flows hfl]
            dsimp only
            rw [sum_mput h.rel.ok.ok.asc _ _ hjj, sum_mput h.rel.ok.ok.asc _ _ hkk, h.sum, accO_mput, if_neg (fun e => hkj e.symm)]
            unfold accP
            dsimp only
            omega
  · unfold stepI
    rw [if_pos (by simpa using hf)]
    exact ⟨O, h.next⟩
theorem IwS.ok (h : IwS N s O) (hN : N ≤ 371) (reb : Int) : IwOk reb s := h.inv.ok hN reb

/-! ### A flow leaves -/
theorem accO_give {sg : Int} : ∀ {L : List Tg} {G : List Int} {m : List (Int × Acc)} (_ : L.Pairwise fun a b => a.f < b.f) (f : Int), (∀ t ∈ L, t.f ≠ f) → accO (giveI sg (L.zip G) m) f = accO m f
  | [], G, m, _, f, _ => rfl
  | _ :: _, [], m, _, f, _ => rfl
  | t :: L, g :: G, m, hL, f, h => by
    rw [List.pairwise_cons] at hL
    show accO (giveI sg (L.zip G) (give1 sg m (t, g))) f = _
    rw [accO_give hL.2 f fun u hu => h u (by simp [hu])]
    unfold give1
    rw [accO_mput, if_neg (fun e => h t (by simp) e.symm)]
theorem accO_giveAt {sg : Int} : ∀ {L : List Tg} {G : List Int} {m : List (Int × Acc)} {i : Nat} {t : Tg} {g : Int} (_ : L.Pairwise fun a b => a.f < b.f), L[i]? = some t → G[i]? = some g → accO (giveI sg (L.zip G) m) t.f = accP (accO m t.f) (sg * g)
  | [], G, m, i, t, g, _, h, _ => by simp at h
  | _ :: _, [], m, i, t, g, _, _, h => by simp at h
  | u :: L, v :: G, m, 0, t, g, hL, h, h' => by
    simp only [List.getElem?_cons_zero, Option.some.injEq] at h h'
    subst h; subst h'
    rw [List.pairwise_cons] at hL
    show accO (giveI sg (L.zip G) (give1 sg m (u, v))) u.f = _
    rw [accO_give hL.2 u.f fun x hx e => by have := hL.1 x hx; omega]
    unfold give1
    rw [accO_mput, if_pos rfl]
  | u :: L, v :: G, m, i + 1, t, g, hL, h, h' => by
    rw [List.getElem?_cons_succ] at h h'
    rw [List.pairwise_cons] at hL
    show accO (giveI sg (L.zip G) (give1 sg m (u, v))) t.f = _
    rw [accO_giveAt hL.2 h h']
    unfold give1
    rw [accO_mput, if_neg]
    have := hL.1 t (List.mem_of_getElem? h)
    show ¬ t.f = u.f
    omega
theorem give_uniq {sg : Int} : ∀ (z : List (Tg × Int)) {m : List (Int × Acc)}, Uniq m → Uniq (giveI sg z m)
  | [], _, h => h
  | _ :: z, _, h => give_uniq z (mput_uniq h _ _)
theorem give_keys {sg : Int} {K : List Int} : ∀ (z : List (Tg × Int)) {m : List (Int × Acc)}, (m.map (·.1)).Perm K → (∀ p ∈ z, p.1.f ∈ K) → ((giveI sg z m).map (·.1)).Perm K
  | [], _, h, _ => h
  | p :: z, m, h, hz => give_keys z (keys_mput_perm h (hz p (by simp)) _) fun q hq => hz q (by simp [hq])
theorem give_sum {sg : Int} {L : List Tg} (hL : L.Pairwise fun a b => a.f < b.f) : ∀ (z : List (Tg × Int)) {m : List (Int × Acc)}, (∀ p ∈ z, p.1.f ∈ L.map (·.f)) → sumI (L.map fun t => (accO (giveI sg z m) t.f).1) = sumI (L.map fun t => (accO m t.f).1) + sg * sumI (z.map (·.2))
  | [], m, _ => by show _ = _ + sg * 0; rw [Int.mul_zero]; exact (Int.add_zero _).symm
  | p :: z, m, hz => by
    show sumI (L.map fun t => (accO (giveI sg z (give1 sg m p)) t.f).1) = _
    rw [give_sum hL z fun q hq => hz q (by simp [hq])]
    unfold give1
    rw [sum_mput hL _ _ (hz p (by simp)), List.map_cons, sumI_cons, Int.mul_add]
    show _ - (accO m p.1.f).1 + ((accO m p.1.f).1 + sg * p.2) + _ = _
    omega
theorem zip_snd : ∀ {L : List Tg} {G : List Int}, G.length = L.length → (L.zip G).map (·.2) = G
  | [], [], _ => rfl
  | [], _ :: _, h => by simp at h
  | _ :: _, [], h => by simp at h
  | t :: L, g :: G, h => by rw [List.zip_cons_cons, List.map_cons, zip_snd (by simpa using h)]
theorem sumI_map_add {g h : Tg → Int} : ∀ L : List Tg, sumI (L.map fun t => g t + h t) = sumI (L.map g) + sumI (L.map h)
  | [] => rfl
  | t :: L => by rw [List.map_cons, List.map_cons, List.map_cons, sumI_cons, sumI_cons, sumI_cons, sumI_map_add L]; omega
theorem getD_map {g : Tg → Int} {L : List Tg} {i : Nat} {t : Tg} (h : L[i]? = some t) : (L.map g).getD i 0 = g t := by
  rw [List.getD_eq_getElem?_getD, List.getElem?_map, h]; rfl
theorem leave_L {S : St} {f : Int} {t : Tg} (hf : fget S.L f = some t) : leaveR S f = (0, leaveS S f t.s) ∧ (leaveS S f t.s).L = delT f S.L := by
  refine ⟨by unfold leaveR; rw [hf], ?_⟩
  unfold leaveS
  split
  · rename_i hz; exact hz.symm
  · rfl
theorem capI_rng (hm : ∀ f, accIn (accO m f)) (had : Int) (t : Tg) : 0 ≤ capI had m t ∧ capI had m t ≤ 2199023255552 := by
  have := hm t.f
  unfold accIn at this
  unfold capI
  split <;> omega
theorem caps_getD (hm : ∀ f, accIn (accO m f)) (had : Int) (L : List Tg) (i : Nat) : 0 ≤ (L.map (capI had m)).getD i 0 := by
  by_cases hi : i < L.length
  · rw [getD_map (List.getElem?_eq_getElem hi)]; exact (capI_rng hm had _).1
  · rw [List.getD_eq_getElem?_getD, List.getElem?_eq_none (by rw [List.length_map]; omega)]; exact Int.le_refl _
theorem ws_getD {L : List Tg} (h : ∀ t ∈ L, 1 ≤ t.w) {i : Nat} (hi : i < L.length) : 1 ≤ (L.map (·.w)).getD i 0 := by
  rw [getD_map (g := (·.w)) (List.getElem?_eq_getElem hi)]; exact h _ (List.getElem_mem hi)
theorem delT_flows (f : Int) (L : List Tg) : (delT f L).map (·.f) = (L.map (·.f)).filter fun g => !(g == f) := by
  unfold delT
  rw [List.filter_map]
  congr 1
theorem sum_del {L : List Tg} (hL : L.Pairwise fun a b => a.f < b.f) {g : Int → Int} {t : Tg} (ht : t ∈ L) : sumI (L.map fun u => g u.f) = g t.f + sumI ((delT t.f L).map fun u => g u.f) := by
  induction L with
  | nil => cases ht
  | cons a L ih =>
    rw [List.pairwise_cons] at hL
    rcases List.mem_cons.1 ht with rfl | ht
    · have : delT t.f (t :: L) = L := by
        unfold delT
        rw [List.filter_cons_of_neg (by simp), List.filter_eq_self.2]
        intro u hu
        have := hL.1 u hu
        simp only [Bool.not_eq_true', beq_eq_false_iff_ne, ne_eq] ; omega
      rw [this, List.map_cons, sumI_cons]
    · have hne := hL.1 t ht
      have : delT t.f (a :: L) = a :: delT t.f L := by
        unfold delT
        rw [List.filter_cons_of_pos (by simp only [Bool.not_eq_true', beq_eq_false_iff_ne, ne_eq]; omega)]
      rw [this, List.map_cons, List.map_cons, sumI_cons, sumI_cons, ih hL.2 ht]
      omega
theorem TB.leave {S : St} {i : Nat} (h : TB i S) {f : Int} {t : Tg} (hf : fget S.L f = some t) : TB i (leaveS S f t.s) := by
  have hok := h.ok.leave hf
  have ht := (fget_some hf).1
  have hts := h.act t ht
  unfold leaveS at *
  split
  · rename_i hz
    rw [if_pos hz] at hok
    exact ⟨hok, by simp, by show (0 : Int) ≤ _; omega, fun g => by show (0 : Int) ≤ _; omega, h.aw0, h.aw1⟩
  · rename_i hz
    rw [if_neg hz] at hok
    refine ⟨hok, fun u hu => h.act u (mem_delT.1 hu).1, h.tm, fun g => ?_, h.aw0, h.aw1⟩
    show (if g = f then t.s else S.old g) ≤ _
    have := h.old g
    split <;> omega
theorem sumI_mapnn {g : Tg → Int} : ∀ {L : List Tg}, (∀ t ∈ L, 0 ≤ g t) → 0 ≤ sumI (L.map g)
  | [], _ => Int.le_refl _
  | t :: L, h => by
    rw [List.map_cons, sumI_cons]
    have := sumI_mapnn (L := L) fun u hu => h u (by simp [hu])
    have := h t (by simp)
    omega
section
variable {L : List Tg} {had : Int} {m1 : List (Int × Acc)} (hm : ∀ f, accIn (accO m1 f)) (hL : LOk L)
include hm hL
theorem gv_ok : FilOk (L.map (capI had m1)) (gvI had m1 L) ∧ (gvI had m1 L).length = L.length ∧ (sumI (L.map fun t => (accO m1 t.f).1) = -had → sumI (gvI had m1 L) = sgI had * had) := by
  have ha : 0 ≤ sgI had * had := by rw [sgI_mul]; omega
  have hlen : (L.map (capI had m1)).length = L.length := List.length_map _
  obtain ⟨h1, h2, h3, h4⟩ := fillI_ok (a := sgI had * had) (ws := L.map (·.w)) (cs := L.map (capI had m1)) ha (fun i hi => ws_getD (fun t ht => (hL.rng t ht).2.2.1) (by rw [hlen] at hi; exact hi)) (caps_getD hm had L)
  refine ⟨h1, by rw [← hlen]; exact h1.len, fun hs => ?_⟩
  have hcap : sgI had * had ≤ sumI (L.map (capI had m1)) := by
    rw [sgI_mul]
    by_cases hp : 0 < had
    · have e : sumI (L.map fun t => capI had m1 t + (accO m1 t.f).1) = sumI (L.map (capI had m1)) + sumI (L.map fun t => (accO m1 t.f).1) := sumI_map_add L
      have : 0 ≤ sumI (L.map fun t => capI had m1 t + (accO m1 t.f).1) := sumI_mapnn fun t _ => by
        have := hm t.f
        unfold accIn at this
        unfold capI
        rw [if_pos hp]
        omega
      omega
    · have e : sumI (L.map (capI had m1)) = sumI (L.map fun t => (accO m1 t.f).2.2) + sumI (L.map fun t => (accO m1 t.f).1) := by
        rw [← sumI_map_add]
        congr 1
        refine List.map_congr_left fun t _ => ?_
        unfold capI
        rw [if_neg hp]
      have : 0 ≤ sumI (L.map fun t => (accO m1 t.f).2.2) := sumI_mapnn fun t _ => by
        have := hm t.f
        unfold accIn at this
        omega
      omega
  have := h4 hcap
  unfold gvI
  omega
theorem hand_acc (f : Int) : accIn (accO (handI had m1 L) f) := by
  obtain ⟨h1, h2, _⟩ := gv_ok (had := had) hm hL
  by_cases hf : ∃ t ∈ L, t.f = f
  · obtain ⟨t, ht, rfl⟩ := hf
    obtain ⟨i, hi⟩ := List.getElem?_of_mem ht
    have hil := (List.getElem?_eq_some_iff.1 hi).1
    obtain ⟨g, hg⟩ : ∃ g, (gvI had m1 L)[i]? = some g := ⟨_, List.getElem?_eq_getElem (by omega)⟩
    unfold handI
    rw [accO_giveAt hL.asc hi hg]
    have hr := h1.rng i
    rw [getD_map hi, List.getD_eq_getElem?_getD, hg] at hr
    have hr0 : 0 ≤ g := hr.1
    have hr1 : g ≤ capI had m1 t := hr.2
    have ha := hm t.f
    unfold capI at hr1
    unfold accIn accP sgI at *
    dsimp only
    split
    · rw [if_neg (by omega)] at hr1
      rw [Int.neg_one_mul]
      omega
    · rw [Int.one_mul]
      by_cases hp : 0 < had
      · rw [if_pos hp] at hr1
        omega
      · have h0 : had = 0 := by omega
        have hg0 : g = 0 := by
          have : gvI had m1 L = List.replicate (L.map (capI had m1)).length 0 := by
            subst h0
            rfl
          rw [this, List.getElem?_replicate] at hg
          split at hg
          · exact (Option.some.inj hg).symm
          · cases hg
        omega
  · unfold handI
    rw [accO_give hL.asc f fun t ht e => hf ⟨t, ht, e⟩]
    exact hm f
theorem hand_sum (hs : sumI (L.map fun t => (accO m1 t.f).1) = -had) : sumI (L.map fun t => (accO (handI had m1 L) t.f).1) = 0 := by
  obtain ⟨_, h2, h3⟩ := gv_ok (had := had) hm hL
  unfold handI
  rw [give_sum hL.asc _ fun p hp => List.mem_map.2 ⟨p.1, (List.of_mem_zip hp).1, rfl⟩, hs, zip_snd h2, h3 hs]
  unfold sgI
  split
  · rw [Int.neg_one_mul, Int.neg_one_mul]; omega
  · rw [Int.one_mul, Int.one_mul]; omega
end
theorem IwS.leave (h : IwS N s O) (hN : N ≤ 1000) (reb f : Int) : ∃ O', IwS (N + 1) (leaveI s f).2 O' := by
  unfold leaveI
  split
  · exact ⟨O, h.next⟩
  · rename_i hf
    obtain ⟨t, ht⟩ := Option.ne_none_iff_exists'.1 hf
    obtain ⟨hmt, htf⟩ := fget_some ht
    obtain ⟨er, S', O', e, hr, _⟩ := leave_both h.rel hN reb f
    obtain ⟨e1, e2⟩ := leave_L ht
    have hS : S' = (leaveR s.R f).2 := by rw [e]
    rw [hS] at hr
    have hT := (h.tb.leave ht).next
    rw [show leaveS s.R f t.s = (leaveR s.R f).2 by rw [e1]] at e2 hT
    generalize (leaveR s.R f).2 = S2 at *
    have hm1 : ∀ g, accIn (accO (mdel s.m f) g) := fun g => by
      rw [accO_mdel h.un]
      split
      · unfold accIn; decide
      · exact h.acc g
    have hks : ((mdel s.m f).map (·.1)).Perm (S2.L.map (·.f)) := by
      rw [e2, mdel_keys, delT_flows]
      have h1 := h.ks.erase f
      refine h1.trans ?_
      have hnd : (s.R.L.map (·.f)).Nodup := (h.ks.nodup_iff).1 h.un
      rw [hnd.erase_eq_filter f]
      refine List.Perm.of_eq (List.filter_congr fun g _ => ?_)
      first | rfl | (by_cases hg : g = f <;> simp [hg])
    have hsum : sumI (S2.L.map fun t => (accO (mdel s.m f) t.f).1) = -(accO s.m f).1 := by
      have hd := sum_del (g := fun g => (accO s.m g).1) h.rel.ok.ok.asc hmt
      have hc : S2.L.map (fun t => (accO (mdel s.m f) t.f).1) = (delT t.f s.R.L).map fun u => (accO s.m u.f).1 := by
        rw [e2, htf]
        refine List.map_congr_left fun u hu => ?_
        rw [accO_mdel h.un, if_neg (mem_delT.1 hu).2]
      rw [hc]
      have h0 := h.sum
      rw [htf] at hd ⊢
      omega
    refine ⟨O', hr, hT, hand_acc hm1 hr.ok.ok, give_uniq _ (mdel_uniq h.un f), ?_, hand_sum hm1 hr.ok.ok hsum⟩
    exact give_keys _ hks fun p hp => List.mem_map.2 ⟨p.1, (List.of_mem_zip hp).1, rfl⟩
end
end Go.Proofs.YtkmlkpfabkhleaaGreat

/- The reference of iwfq: Join (what it refuses). -/
namespace Go.Proofs.YtkmlkpfabkhleaaGreat
open Go.RowKit
open SP
section
variable {w w' : World} {R : List SP} {b pr : Nat} {at_ : Int} {O : List Tg} {P Sp : SP} {S : St} {m : List (Int × Acc)}

set_option maxHeartbeats 1600000 in
set_option maxRecDepth 100000 in
theorem refJoinI_bad {f wt x y : Int} (hb : bndI x y = false) (w : World) :
    Calls Tryz.prog 33 #[.pointer (some ⟨b, 0, none⟩), .int .i64 f, .int .i64 wt, .int .i64 x, .int .i64 y] w (IsRet (.int .i64 1) w) := by
  have hbo := boundsOK_spec x y w
  rw [hb] at hbo
  go_enter Tryz.func33, Tryz.ntmps33
  go_wp2_with fail
  refine hbo.mono ?_
  rintro e2 w2 ⟨rfl, rfl⟩
  go_wp2
  go_ret
  exact ⟨rfl, rfl⟩
set_option maxHeartbeats 1600000 in
set_option maxRecDepth 100000 in
/-- What the queue below refuses. -/
theorem refJoinI_err {f wt x y e : Int} (hb : bndI x y = true) (he : e ≠ 0)
    (hj : ∀ (b : Nat) (w : World) (R : List SP), Own w (RefT P b at_ S.L O S.tm S.aw :: P :: R) → Calls Tryz.prog 82 #[.pointer (some ⟨b, 0, none⟩), .int .i64 f, .int .i64 wt] w (IsRet (.int .i64 e) w))
    (o : Own w (IwT P b at_ S O m :: P :: R)) :
    Calls Tryz.prog 33 #[.pointer (some ⟨b, 0, none⟩), .int .i64 f, .int .i64 wt, .int .i64 x, .int .i64 y] w (IsRet (.int .i64 e) w) := by
  obtain ⟨pr, aB, cB, o1⟩ := IwT.iff.1 o
  have c0 := o1.cell 0
  have hbo := boundsOK_spec x y w
  rw [hb] at hbo
  have hc := hj pr w _ (o1.re [1, 3])
  clear hj
  go_enter Tryz.func33, Tryz.ntmps33
  go_wp2_with fail
  refine hbo.mono ?_
  rintro e2 w2 ⟨rfl, rfl⟩
  go_wp2_with fail
  refine hc.mono ?_
  rintro e3 w3 ⟨rfl, rfl⟩
  go_wp2
  go_ret
  exact ⟨rfl, rfl⟩
end
end Go.Proofs.YtkmlkpfabkhleaaGreat

/- The reference of iwfq: Join. -/
namespace Go.Proofs.YtkmlkpfabkhleaaGreat
open Go.RowKit
open SP
section
variable {w w' : World} {R : List SP} {b pr : Nat} {at_ : Int} {O : List Tg} {P Sp : SP} {S : St} {m : List (Int × Acc)}

theorem insT_at {x y : Tg} : ∀ {L : List Tg} {i : Nat}, (∀ t ∈ L, t.f ≠ x.f) → (insT x L)[i]? = some y → y.f = x.f → insT x L = L.take i ++ x :: L.drop i ∧ i ≤ L.length
  | [], 0, _, _, _ => ⟨rfl, Nat.le_refl _⟩
  | [], i + 1, _, h, _ => by unfold insT at h; simp at h
  | t :: L, 0, hx, h, hy => by
    unfold insT at h ⊢
    split at h
    · simp only [List.getElem?_cons_zero, Option.some.injEq] at h
      subst h
      exact absurd hy (hx t (by simp))
    · rename_i hn
      rw [if_neg hn]
      exact ⟨rfl, Nat.zero_le _⟩
  | t :: L, i + 1, hx, h, hy => by
    unfold insT at h ⊢
    split at h
    · rename_i hn
      rw [if_pos hn]
      rw [List.getElem?_cons_succ] at h
      obtain ⟨h1, h2⟩ := insT_at (fun u hu => hx u (by simp [hu])) h hy
      refine ⟨?_, by rw [List.length_cons]; omega⟩
      conv => lhs; rw [h1]
      rfl
    · rw [List.getElem?_cons_succ] at h
      exact absurd hy (hx y (List.mem_of_getElem? h))
theorem flat_cut {α : Type} {g : α → List Value} {sz : Nat} (hg : ∀ x, (g x).length = sz) (L : List α) (i : Nat) (hi : i ≤ L.length) : (flat g L).take (i * sz) = flat g (L.take i) ∧ (flat g L).drop (i * sz) = flat g (L.drop i) := by
  have h1 : flat g L = flat g (L.take i) ++ flat g (L.drop i) := by rw [← flat_append, List.take_append_drop]
  have h2 : (flat g (L.take i)).length = i * sz := by rw [flat_length hg, List.length_take, Nat.min_eq_left hi]
  rw [h1, ← h2]
  exact ⟨List.take_left, List.drop_left⟩
/-- The list behind a flow that joins. -/
theorem bd_join {L L' : List Tg} {X : Tg} {i : Nat} (hi : i ≤ L.length) (hL : L' = L.take i ++ X :: L.drop i) (hno : ∀ t ∈ L, t.f ≠ X.f) (x y : Int) :
    flat (bdC (mput m X.f (0, x, y))) L' = (flat (bdC m) L).take (i * 4) ++ [.int .i64 X.f, .int .i64 0, .int .i64 x, .int .i64 y] ++ (flat (bdC m) L).drop (i * 4) := by
  obtain ⟨h1, h2⟩ := flat_cut (bdC_len m) L i hi
  have e : ∀ l : List Tg, (∀ t ∈ l, t ∈ L) → flat (bdC (mput m X.f (0, x, y))) l = flat (bdC m) l := fun l hl => flat_bd rfl fun t ht => by rw [accO_mput, if_neg (hno t (hl t ht))]
  have hc : flat (bdC (mput m X.f (0, x, y))) (X :: L.drop i) = [.int .i64 X.f, .int .i64 0, .int .i64 x, .int .i64 y] ++ flat (bdC (mput m X.f (0, x, y))) (L.drop i) := by
    have : bdC (mput m X.f (0, x, y)) X = [.int .i64 X.f, .int .i64 0, .int .i64 x, .int .i64 y] := by unfold bdC; rw [accO_mput, if_pos rfl]
    rw [← this]; rfl
  rw [hL, flat_append, hc, e _ fun t ht => List.mem_of_mem_take ht, e _ fun t ht => List.mem_of_mem_drop ht, h1, h2, List.append_assoc]
set_option maxHeartbeats 6400000 in
set_option maxRecDepth 100000 in
theorem refJoinI_ok {S' : St} {O' : List Tg} {f wt x y : Int} {X : Tg} (hb : bndI x y = true) (hok : LOk S'.L) (hno : ∀ t ∈ S.L, t.f ≠ f) (hL' : S'.L = insT X S.L) (hX : X.f = f)
    (hj : ∀ (P : SP) (b : Nat) (w : World) (R : List SP), Own w (RefT P b at_ S.L O S.tm S.aw :: P :: R) → Calls Tryz.prog 82 #[.pointer (some ⟨b, 0, none⟩), .int .i64 f, .int .i64 wt] w (SetWT b at_ S'.L O' S'.tm S'.aw P R w 0))
    (o : Own w (IwT P b at_ S O m :: P :: R)) :
    Calls Tryz.prog 33 #[.pointer (some ⟨b, 0, none⟩), .int .i64 f, .int .i64 wt, .int .i64 x, .int .i64 y] w
      (fun e w' => ∃ P', Ret (.int .i64 0) (IwT P' b at_ S' O' (mput m f (0, x, y)) :: P' :: R) w e w') := by
  obtain ⟨pr, aB, cB, o1⟩ := IwT.iff.1 o
  have c0 := o1.cell 0
  have hbo := boundsOK_spec x y w
  rw [hb] at hbo
  have hlen := hok.len
  have hmx : X ∈ S'.L := by rw [hL', mem_insT]; exact .inl rfl
  have hfg : fget S'.L f = some X := by rw [← hX]; exact fget_mem hok hmx
  obtain ⟨i, hit, hix⟩ := idxT_some 0 S'.L hfg
  rw [Nat.zero_add] at hix
  have hit2 := hit
  rw [hL'] at hit2
  obtain ⟨hsp, hil⟩ := insT_at (x := X) (by rw [hX]; exact hno) hit2 rfl
  have hfl := bd_join (m := m) (X := X) hil (hL'.trans hsp) (by rw [hX]; exact hno) x y
  rw [hX] at hfl
  have hSl : S'.L.length = S.L.length + 1 := by rw [hL', hsp, List.length_append, List.length_cons, List.length_take, List.length_drop]; omega
  have hone := bd_one m S.L
  have hfll : (flat (bdC m) S.L).length = S.L.length * 4 := flat_length (bdC_len m) S.L
  have hc := fun P => hj P pr
  obtain ⟨n, hn⟩ : ∃ n, S.L.length = n := ⟨_, rfl⟩
  obtain ⟨Xs, hXs⟩ : ∃ Xs, flat (bdC m) S.L = Xs := ⟨_, rfl⟩
  unfold bdS at o1
  rw [hn, hXs] at o1
  rw [hXs] at hfl hone hfll
  rw [hn] at hfll hSl hil
  have hn32 : n ≤ 32 := by omega
  have HFL := Lib.hid hfl
  have HSL := Lib.hid hSl
  have HFLL := Lib.hid hfll
  have HONE := Lib.hid hone
  have HIX := Lib.hid hix
  have HOK := Lib.hid hlen
  have hcall := hc P w _ (o1.re [1, 3])
  clear hj hc hb hit hit2 hsp hno hX hL' hfl hSl hone hfll hmx hfg hok hix hlen
  go_enter Tryz.func33, Tryz.ntmps33
  go_wp2_with fail
  refine hbo.mono ?_
  rintro e2 w2 ⟨rfl, rfl⟩
  go_wp2_with fail
  refine hcall.mono ?_
  rintro e3 w3 ⟨P', hPE, rfl, o3, k3⟩
  have hi := index_spec f (by have := HOK.out; omega) o3
  rw [HIX.out] at hi
  have oo := o3.re [2, 3, 0, 1]
  have c0 := oo.cell 0
  have c1 := oo.cell 1
  clear hcall o1 o
  go_wp2_with fail
  refine hi.mono ?_
  rintro e4 w4 ⟨rfl, rfl⟩
  have bl := oo.celLt
  have oZ := slc_zero (e := 145) (size := 4) (oo.alloc (.cells #[] 145))
  have src0 : ∀ (w : World) (a : Option Addr) (c' : Nat), IsSrc w (.slice a 0 c') 4 0 [] := fun w a c' => ⟨a, c', rfl, by simp, by simp, .inl rfl⟩
  have SRC := Lib.hid src0
  clear src0
  rcases Own.slc.1 (oo.up 1) with ⟨ha, hz, hcz, _, _⟩ | ⟨g, sp, ha, _, hc2, _, _, _⟩
  · subst ha
    have hi0 : i = 0 := by omega
    have HI := Lib.hid hz
    have hx0 : Xs = [] := List.eq_nil_of_length_eq_zero (by rw [HFLL.out, hz])
    have HX0 := Lib.hid hx0
    subst hz
    subst hcz
    subst hi0
    clear hx0
    go_wp2_with (at_builtin; refine wpList_append_src rfl _ _ rfl Tryz.bndT rfl oZ rfl (SRC.out _ _ _) (by unfold maxLen; omega) (by omega) ?k1)
    case k1 =>
    intro a5 c5 w5 o5 k5
    have d1 := (o5.up 1).cell 1
    have dl := (o5.up 1).celLt
    have oN := (o5.alloc (.cells #[.int .i64 f, .int .i64 0, .int .i64 x, .int .i64 y] 145))
    have hnw := Own.news (T := 145) (vs := [.int .i64 f, .int .i64 0, .int .i64 x, .int .i64 y]) oN
    go_wp2_with (at_builtin; refine wpList_append_slc rfl _ _ rfl Tryz.bndT rfl (oN.up 1) ⟨w5.heap.size, 0, none⟩ 1 1 [.int .i64 f, .int .i64 0, .int .i64 x, .int .i64 y] rfl rfl hnw (by intro u hu; simp at hu; rcases hu with rfl | rfl | rfl | rfl <;> rfl) (by unfold maxLen; omega) (by omega) ?k2)
    case k2 =>
    intro a7 c7 w7 o7 k7
    have d7 := (o7.up 2).cell 1
    have dl7 := (o7.up 2).celLt
    go_wp2_with (at_builtin; refine wpList_append_src rfl _ _ rfl Tryz.bndT rfl o7 rfl (SRC.out _ _ _) (by unfold maxLen; omega) (by omega) ?k3)
    case k3 =>
    intro a9 c9 w9 o9 k9
    have d9 := (o9.up 2).cell 1
    have df9 := (o9.up 2).frozen
    have dl9 := (o9.up 2).celLt
    have oF := ((o9.up 2).setCell 1 (.slice a9 1 c9)).re [2, 3] 2
    go_wp2
    go_ret
    have e1 := HFL.out
    rw [HX0.out] at e1
    refine ⟨P', rfl, IwT.iff.2 ⟨pr, a9, c9, ?_⟩, k3.trans (Calm.trans ⟨k5.os, k5.tape, k5.output⟩ (k7.al.trans (k9.trans ⟨rfl, rfl, rfl⟩)))⟩
    unfold bdS
    rw [HSL.out, e1]
    exact oF.re [0, 2, 1]
  · subst ha
    have oB := (oo.up 1)
    have s1 := slc_cut (e := 145) (size := 4) (g := g) (n := n) (c := cB) (i := 0) (k := i) (c' := cB) (by omega) HONE.out (oZ.up 2)
    rw [Nat.zero_mul, List.drop_zero] at s1
    have b2 : (i : Int) ≤ (n : Int) := by omega
    have b1 : (i : Int) ≤ (cB : Int) := by omega
    have b1' : i ≤ cB := by omega
    by_cases hkc : i = cB
    · have hik : n = i := by omega
      have z0 : n - i = 0 := by omega
      have z1 : (n : Int) ≤ (i : Int) := by omega
      have HIK := Lib.hid hik
      subst hkc
      clear hik
      go_wp2_with (at_builtin; refine wpList_append_src rfl _ _ rfl Tryz.bndT rfl oZ rfl s1 (by unfold maxLen; omega) (by omega) ?k1)
      case k1 =>
      intro a5 c5 w5 o5 k5
      have d1 := (o5.up 1).cell 1
      have dl := (o5.up 1).celLt
      have oN := (o5.alloc (.cells #[.int .i64 f, .int .i64 0, .int .i64 x, .int .i64 y] 145))
      have hnw := Own.news (T := 145) (vs := [.int .i64 f, .int .i64 0, .int .i64 x, .int .i64 y]) oN
      go_wp2_with (at_builtin; refine wpList_append_slc rfl _ _ rfl Tryz.bndT rfl (oN.up 1) ⟨w5.heap.size, 0, none⟩ 1 1 [.int .i64 f, .int .i64 0, .int .i64 x, .int .i64 y] rfl rfl hnw (by intro u hu; simp at hu; rcases hu with rfl | rfl | rfl | rfl <;> rfl) (by unfold maxLen; omega) (by omega) ?k2)
      case k2 =>
      intro a7 c7 w7 o7 k7
      have d7 := (o7.up 2).cell 1
      have dl7 := (o7.up 2).celLt
      go_wp2_with (at_builtin; refine wpList_append_src rfl _ _ rfl Tryz.bndT rfl o7 rfl (SRC.out _ _ _) (by unfold maxLen; omega) (by omega) ?k3)
      case k3 =>
      intro a9 c9 w9 o9 k9
      have d9 := (o9.up 2).cell 1
      have df9 := (o9.up 2).frozen
      have dl9 := (o9.up 2).celLt
      go_wp2
      go_ret
      have e1 := HFL.out
      have hd0 : Xs.drop (i * 4) = [] := List.drop_eq_nil_of_le (by rw [HFLL.out, HIK.out]; exact Nat.le_refl _)
      rw [hd0] at e1
      refine ⟨P', rfl, IwT.iff.2 ⟨pr, a9, c9, ?_⟩, k3.trans (Calm.trans ⟨k5.os, k5.tape, k5.output⟩ (k7.al.trans (k9.trans ⟨rfl, rfl, rfl⟩)))⟩
      unfold bdS
      rw [HSL.out, e1, HIK.out]
      have oF := ((o9.up 2).setCell 1 (.slice a9 (0 + i + 1 + 0) c9)).re [2, 3] 2
      have oF2 := oF.re [0, 2, 1]
      simp only [Nat.zero_add, Nat.add_zero, List.append_nil] at oF2 ⊢
      exact oF2
    · have hkc1 : ((i : Int) == (cB : Int)) = false := by rw [beq_eq_false_iff_ne]; omega
      have hkc2 : ¬ cB = i := by omega
      have hkc3 : ¬ i = cB := hkc
      go_wp2_with (at_builtin; refine wpList_append_src rfl _ _ rfl Tryz.bndT rfl oZ rfl s1 (by unfold maxLen; omega) (by omega) ?k1)
      case k1 =>
      intro a5 c5 w5 o5 k5
      have d1 := (o5.up 1).cell 1
      have dl := (o5.up 1).celLt
      have oN := (o5.alloc (.cells #[.int .i64 f, .int .i64 0, .int .i64 x, .int .i64 y] 145))
      have hnw := Own.news (T := 145) (vs := [.int .i64 f, .int .i64 0, .int .i64 x, .int .i64 y]) oN
      go_wp2_with (at_builtin; refine wpList_append_slc rfl _ _ rfl Tryz.bndT rfl (oN.up 1) ⟨w5.heap.size, 0, none⟩ 1 1 [.int .i64 f, .int .i64 0, .int .i64 x, .int .i64 y] rfl rfl hnw (by intro u hu; simp at hu; rcases hu with rfl | rfl | rfl | rfl <;> rfl) (by unfold maxLen; omega) (by omega) ?k2)
      case k2 =>
      intro a7 c7 w7 o7 k7
      have d7 := (o7.up 2).cell 1
      have dl7 := (o7.up 2).celLt
      have s2 := slc_cut (e := 145) (size := 4) (g := g) (n := n) (c := cB) (i := i) (k := n - i) (c' := cB - i) (by omega) HONE.out (o7.up 3)
      rw [List.take_of_length_le (by rw [List.length_drop, HFLL.out]; omega)] at s2
      go_wp2_with (at_builtin; refine wpList_append_src rfl _ _ rfl Tryz.bndT rfl o7 rfl s2 (by unfold maxLen; omega) (by omega) ?k3)
      case k3 =>
      intro a9 c9 w9 o9 k9
      have d9 := (o9.up 2).cell 1
      have df9 := (o9.up 2).frozen
      have dl9 := (o9.up 2).celLt
      go_wp2
      go_ret
      refine ⟨P', rfl, IwT.iff.2 ⟨pr, a9, c9, ?_⟩, k3.trans (Calm.trans ⟨k5.os, k5.tape, k5.output⟩ (k7.al.trans (k9.trans ⟨rfl, rfl, rfl⟩)))⟩
      have hnn : i + 1 + (n - i) = n + 1 := by omega
      unfold bdS
      rw [HSL.out, HFL.out]
      have oF := ((o9.up 2).setCell 1 (.slice a9 (i + 1 + (n - i)) c9)).re [2, 3] 2
      have oF2 := oF.re [0, 2, 1]
      simp only [hnn, List.nil_append, List.append_assoc, List.cons_append] at oF2 ⊢
      exact oF2
end
end Go.Proofs.YtkmlkpfabkhleaaGreat

/- Iwfq, plain: what the others get, one after the other. -/
namespace Go.Proofs.YtkmlkpfabkhleaaGreat
open Go.RowKit
section
variable {m m1 : List (Int × Acc)} {L : List Tg} {had : Int}

theorem give_take {sg : Int} {G : List Int} {k : Nat} {t : Tg} {g : Int} (ht : L[k]? = some t) (hg : G[k]? = some g) :
    giveI sg ((L.zip G).take (k + 1)) m = mput (giveI sg ((L.zip G).take k) m) t.f (accP (accO (giveI sg ((L.zip G).take k) m) t.f) (sg * g)) := by
  have : (L.zip G)[k]? = some (t, g) := by rw [List.getElem?_zip_eq_some]; exact ⟨ht, hg⟩
  unfold giveI
  rw [List.take_add_one, this, List.foldl_append]
  rfl
theorem accO_take {sg : Int} {G : List Int} (hL : L.Pairwise fun a b => a.f < b.f) {k : Nat} {t : Tg} (ht : L[k]? = some t) : accO (giveI sg ((L.zip G).take k) m) t.f = accO m t.f := by
  have e : (L.zip G).take k = (L.take k).zip (G.take k) := List.take_zipWith
  rw [e]
  refine accO_give (hL.sublist (List.take_sublist _ _)) t.f fun u hu e => ?_
  obtain ⟨q, hq⟩ := List.getElem?_of_mem hu
  rw [List.getElem?_take] at hq
  split at hq
  · obtain ⟨h1, h2⟩ := List.getElem?_eq_some_iff.1 ht
    obtain ⟨h3, h4⟩ := List.getElem?_eq_some_iff.1 hq
    have := List.pairwise_iff_getElem.1 hL q k h3 h1 (by omega)
    rw [h2, h4] at this
    omega
  · cases hq
/-- One of the shares. -/
theorem gv_get (hm : ∀ f, accIn (accO m1 f)) (hL : LOk L) {k : Nat} (hk : k < L.length) : ∃ g, (gvI had m1 L)[k]? = some g ∧ 0 ≤ g ∧ g ≤ 2199023255552 ∧ (had = 0 → g = 0) := by
  obtain ⟨h1, h2, _⟩ := gv_ok (had := had) hm hL
  obtain ⟨g, hg⟩ : ∃ g, (gvI had m1 L)[k]? = some g := ⟨_, List.getElem?_eq_getElem (by omega)⟩
  obtain ⟨t, ht⟩ : ∃ t, L[k]? = some t := ⟨_, List.getElem?_eq_getElem hk⟩
  have hr := h1.rng k
  rw [getD_map ht, List.getD_eq_getElem?_getD, hg] at hr
  have hr0 : 0 ≤ g := hr.1
  have hr1 : g ≤ capI had m1 t := hr.2
  have hc := (capI_rng hm had t).2
  refine ⟨g, hg, hr0, by omega, fun h0 => ?_⟩
  have : gvI had m1 L = List.replicate (L.map (capI had m1)).length 0 := by
    subst h0
    rfl
  rw [this, List.getElem?_replicate] at hg
  split at hg
  · exact (Option.some.inj hg).symm
  · cases hg
theorem sg_mul {g : Int} (h0 : had = 0 → g = 0) : sgI had * g = if 0 < had then g else -g := by
  unfold sgI
  by_cases h : had < 0
  · rw [if_pos h, if_neg (by omega)]; exact Int.neg_one_mul g
  · rw [if_neg h]
    split
    · exact Int.one_mul g
    · rw [h0 (by omega)]; rfl
theorem zip_full {G : List Int} (h : G.length = L.length) : (L.zip G).take L.length = L.zip G := List.take_of_length_le (by rw [List.length_zip]; omega)
/-- The list behind a flow that leaves. -/
theorem bd_leave (hu : Uniq m) {i : Nat} {t : Tg} (hL : L.Pairwise fun a b => a.f < b.f) (ht : L[i]? = some t) :
    (flat (bdC m) L).take (i * 4) ++ (flat (bdC m) L).drop ((i + 1) * 4) = flat (bdC (mdel m t.f)) (delT t.f L) := by
  have hi := (List.getElem?_eq_some_iff.1 ht).1
  rw [(flat_cut (bdC_len m) L i (by omega)).1, (flat_cut (bdC_len m) L (i + 1) (by omega)).2, ← flat_append, delT_atP hL ht]
  refine flat_bd rfl fun u hu2 => ?_
  rw [accO_mdel hu, if_neg (mem_delT.1 hu2).2]
theorem capV_snoc {k : Nat} {t : Tg} (ht : L[k]? = some t) (had : Int) (m : List (Int × Acc)) : i64s ((L.take (k + 1)).map (capI had m)) = i64s ((L.take k).map (capI had m)) ++ [.int .i64 (capI had m t)] := by
  rw [List.take_add_one, ht, List.map_append]
  unfold i64s
  rw [List.map_append]; rfl
theorem ptV_snoc {k : Nat} {t : Tg} (ht : L[k]? = some t) : flat part (ptsOf (L.take (k + 1))) = flat part (ptsOf (L.take k)) ++ [.int .i64 t.f, .int .i64 t.w] := by
  unfold ptsOf
  rw [List.take_add_one, ht, List.map_append, flat_append]; rfl
theorem ptOk_of (h : LOk L) : PtOk (ptsOf L) := by
  refine ⟨?_, fun p hp => ?_, ?_⟩
  · unfold ptsOf
    rw [List.pairwise_map]
    exact h.asc
  · unfold ptsOf at hp
    obtain ⟨t, ht, rfl⟩ := List.mem_map.1 hp
    have := h.rng t ht
    exact ⟨this.1, this.2.1, this.2.2.1, this.2.2.2.1⟩
  · rw [ptsOf_len]; exact h.len
theorem pts_ws (L : List Tg) : (ptsOf L).map (·.2) = L.map (·.w) := by unfold ptsOf; rw [List.map_map]; rfl
theorem caps_rng (hm : ∀ f, accIn (accO m f)) (had : Int) (L : List Tg) (i : Nat) : 0 ≤ (L.map (capI had m)).getD i 0 ∧ (L.map (capI had m)).getD i 0 ≤ 2199023255552 := by
  by_cases hi : i < L.length
  · rw [getD_map (List.getElem?_eq_getElem hi)]; exact capI_rng hm had _
  · rw [List.getD_eq_getElem?_getD, List.getElem?_eq_none (by rw [List.length_map]; omega)]; exact ⟨Int.le_refl _, by decide⟩
end
end Go.Proofs.YtkmlkpfabkhleaaGreat

/- Shares by weights: ref1.Split. -/
namespace Go.Proofs.YtkmlkpfabkhleaaGreat
open Go.RowKit
open SP
section
variable {w w' : World} {R : List SP}

def RvRel (l : List (Int × Int)) (Sp : SP) (R : List SP) (w : World) (v3 : Value) (wr : World) : Prop :=
  ∃ i : Nat, v3 = .int .i64 (i : Int) ∧ i ≤ l.length ∧ Own wr (Sp :: R) ∧ Calm w wr
set_option maxHeartbeats 3200000 in
set_option maxRecDepth 100000 in
theorem refValidParts_spec {Sp : SP} {l : List (Int × Int)} {a : Option Addr} {n c : Nat} (hS : PartsAt Sp a l) (hok : PtOk l) (hn : n = l.length) (o : Own w (Sp :: R)) :
    Calls Tryz.prog 159 #[.slice a n c] w (Ret (.bool true) (Sp :: R) w) := by
  have hl := hok.len
  have hn2 : n ≤ 32 := by omega
  have hn64 : decide (64 < (n : Int)) = false := decide_eq_false (by omega)
  have Hn := Lib.hid hn
  have HOK := Lib.hid hok
  clear hn hl hok
  go_enter Tryz.func159, Tryz.ntmps159
  go_wp2
  go_loopw [3] (fun v3 wr => RvRel l Sp R w v3 wr) (fun v _ => n - (ivOf v).toNat)
  case atStart => exact ⟨0, rfl, by omega, o, Calm.refl w⟩
  case round =>
    obtain ⟨i, rfl, hi, oR, kR⟩ := hrel
    by_cases hlt : i < n
    · obtain ⟨t, ht⟩ : ∃ t, l[i]? = some t := ⟨_, List.getElem?_eq_getElem (by have := Hn.out; omega)⟩
      have h2 := HOK.out.rng t (List.mem_of_getElem? ht)
      cases i with
      | zero =>
        obtain ⟨g, so, rfl, d0, d1⟩ := hS _ _ oR 0 _ ht
        obtain ⟨x, y⟩ := t
        dsimp only at d0 d1 h2
        clear ht
        obtain ⟨h2, h3, h4, h5⟩ := h2
        simp only [Nat.zero_mul, Nat.add_zero] at d0 d1
        have f1 : decide (x < 0) = false := decide_eq_false (by omega)
        have f2 : decide (y < 1) = false := decide_eq_false (by omega)
        have f3 : decide (2147483648 < y) = false := decide_eq_false (by omega)
        go_wp2
        go_quiet (fail)
        go_wp2
        go_roundw
        case rel => exact ⟨1, by go_num, by have := Hn.out; omega, oR.drewN _, kR.dn _⟩
        case measure => simp [ivOf]; omega
      | succ k =>
        obtain ⟨u, hu⟩ : ∃ u, l[k]? = some u := ⟨_, List.getElem?_eq_getElem (by have := Hn.out; omega)⟩
        obtain ⟨g, so, rfl, d0, d1⟩ := hS _ _ oR (k + 1) _ ht
        obtain ⟨g', so', hgg, e0, e1⟩ := hS _ _ oR k _ hu
        cases hgg
        have hlt2 : u.1 < t.1 := by
          have := List.pairwise_iff_getElem.1 HOK.out.asc k (k + 1) (List.getElem?_eq_some_iff.1 hu).1 (List.getElem?_eq_some_iff.1 ht).1 (by omega)
          rw [(List.getElem?_eq_some_iff.1 hu).2, (List.getElem?_eq_some_iff.1 ht).2] at this
          exact this
        obtain ⟨x, y⟩ := t
        obtain ⟨x', y'⟩ := u
        dsimp only at d0 d1 e0 e1 h2 hlt2
        clear ht hu
        obtain ⟨h2, h3, h4, h5⟩ := h2
        have f0 : decide (x ≤ x') = false := decide_eq_false (by omega)
        have f1 : decide (x < 0) = false := decide_eq_false (by omega)
        have f2 : decide (y < 1) = false := decide_eq_false (by omega)
        have f3 : decide (2147483648 < y) = false := decide_eq_false (by omega)
        have f4 : decide (0 < k + 1) = true := decide_eq_true (by omega)
        have f5 : decide ((0 : Int) < ((k + 1 : Nat) : Int)) = true := decide_eq_true (by omega)
        have hk : ((k + 1 : Nat) : Int) - 1 = (k : Int) := by omega
        have hk2 : (k : Int) + 1 - 1 = (k : Int) := by omega
        go_wp2
        go_quiet (fail)
        go_wp2
        go_roundw
        case rel => exact ⟨k + 2, by go_num, by have := Hn.out; omega, oR.drewN _, kR.dn _⟩
        case measure => simp [ivOf]; omega
    · go_wp2
      go_ret
      exact ⟨rfl, oR, kR⟩

set_option maxHeartbeats 3200000 in
set_option maxRecDepth 100000 in
theorem refSplit_spec {Sp : SP} {l : List (Int × Int)} {ar : Option Addr} {n c : Nat} (a : Int) (ha : ab a ≤ 36028797018963968) (hS : PartsAt Sp ar l) (hok : PtOk l) (hn : n = l.length) (o : Own w (Sp :: R)) :
    Calls Tryz.prog 144 #[.int .i64 a, .slice ar n c] w (ShPost a l Sp R w) := by
  have hv := refValidParts_spec (c := c) hS hok hn o
  have hl := hok.len
  have hn2 : n ≤ 32 := by omega
  by_cases h0 : l = []
  · subst h0
    have : n = 0 := hn
    subst this
    clear hn hl hn2 hok hS
    go_enter Tryz.func144, Tryz.ntmps144
    go_wp2_with fail
    refine hv.mono ?_
    rintro e1 w1 ⟨rfl, o1, k1⟩
    go_wp2
    go_ret2
    exact ⟨none, 0, rfl, o1.slc_nil, k1⟩
  · have hpos : 0 < n := by rw [hn]; exact List.length_pos_iff.2 h0
    have hn0 : ((n : Int) == 0) = false := by simp; omega
    have hrest : ∀ p ∈ l, 1 ≤ p.2 ∧ p.2 ≤ 16 := fun p hp => ⟨(hok.rng p hp).2.2.1, (hok.rng p hp).2.2.2⟩
    have hTpos : 0 < sumI (pws l) := sumI_pos (by unfold pws; simpa using h0) (pws_pos hok)
    have hTle : sumI (pws l) ≤ 16 * (l.length : Int) := by
      have := sumI_le (pws l) fun x hx => by
        obtain ⟨p, hp, rfl⟩ := List.mem_map.1 hx
        exact (hrest p hp).2
      unfold pws at this; rw [List.length_map] at this; exact this
    have hdrop : ∀ i, 0 ≤ sumI (pws (l.drop i)) := fun i => sumI_nonneg _ fun x hx => by
      obtain ⟨p, hp, rfl⟩ := List.mem_map.1 hx
      have := hrest p (List.mem_of_mem_drop hp); omega
    have HTl := Lib.hid (show sumI (pws l) ≤ 512 by omega)
    have HTp := Lib.hid hTpos
    have HN := Lib.hid hn
    have HDr := Lib.hid hdrop
    have HRest := Lib.hid hrest
    have H0 := Lib.hid h0
    have hmk := makeI_run n (by omega)
    clear hn hTpos hTle hdrop hrest hl h0
    go_enter Tryz.func144, Tryz.ntmps144
    go_wp2_with fail
    refine hv.mono ?_
    rintro e1 w1 ⟨rfl, o1, k1⟩
    clear hv
    go_wp2
    go_loopw [6, 7] (fun v6 v24 wr => SpRel1 l Sp R w v6 v24 wr) (fun _ v _ => n - (ivOf v).toNat)
    case atStart => exact ⟨0, 0, rfl, rfl, by omega, by omega, by rw [List.drop_zero]; omega, o1, k1⟩
    case round =>
      obtain ⟨i, s, rfl, rfl, hi, hs0, hs, oR, kR⟩ := hrel
      by_cases hlt : i < n
      · obtain ⟨t, ht⟩ : ∃ t, l[i]? = some t := ⟨_, List.getElem?_eq_getElem (by have := HN.out; omega)⟩
        obtain ⟨g, so, rfl, d0, d1⟩ := hS _ _ oR i _ ht
        have h2 := HRest.out t (List.mem_of_getElem? ht)
        have hs2 := hs
        rw [pws_drop ht] at hs2
        have hdn := HDr.out (i + 1)
        have hTl := HTl.out
        obtain ⟨x, y⟩ := t
        dsimp only at d0 d1 h2 hs2
        have hw : IntKind.i64.wrap (s + y) = s + y := by rw [IntKind.wrap_i64]; omega
        have hlen := HN.out
        have HS := Lib.hid hs2
        have HL := Lib.hid hlen
        clear hs2 hdn hTl hs ht hlen
        go_wp2
        go_roundw
        case rel => exact ⟨i + 1, s + y, by go_num, rfl, by have := HL.out; omega, by omega, by have := HS.out; omega, oR, ⟨kR.os, kR.tape, kR.output⟩⟩
        case measure => simp [ivOf]; omega
      · have hil : i = l.length := by have := HN.out; omega
        have hsT : s = sumI (pws l) := by
          rw [hil, List.drop_length] at hs
          have : sumI (pws ([] : List (Int × Int))) = 0 := rfl
          omega
        have HT1 := Lib.hid hsT
        have hT1 : 1 ≤ s ∧ s ≤ 512 := by have := HTl.out; have := HTp.out; omega
        clear hsT hs hil hs0
        have hMD : ∀ (x : Int) (W : World) (R' : List SP), 1 ≤ x → x ≤ 16 → Own W R' → Calls Tryz.prog 176 #[.int .i64 a, .int .i64 x, .int .i64 s, .int .i64 (if a < 0 then 1 else 0)] W (Ret (.tuple #[.int .i64 ((a * x).tdiv s), .int .i64 0]) R' W) :=
          fun x W R' h1 h2 o' => refMulDivI_spec a x s ha h1 h2 (by omega) (by omega) o'
        have HMD := Lib.hid hMD
        clear hMD
        by_cases hneg : a < 0
        · have f1 : decide (a < 0) = true := decide_eq_true hneg
          have hrd : (if a < 0 then (1 : Int) else 0) = 1 := if_pos hneg
          rw [hrd] at HMD
          have HA := Lib.hid ha
          have HNEG := Lib.hid hneg
          clear hneg ha hrd hT1
          go_wp2
          have oZ := oR.alloc (.cells (List.replicate n (Value.int .i64 0)).toArray 2)
          generalize hg : wr.heap.size = g at *
          have HG := Lib.hid hg
          clear hg
          go_loopw [9, 10] (fun v11 v41 wr' => SpRel2 a s l g Sp R w v11 v41 wr') (fun _ v _ => n - (ivOf v).toNat)
          case atStart => exact ⟨0, 0, rfl, by rw [Int.sub_zero], by omega, rfl, by decide, by rw [List.take_zero, Nat.sub_zero, ← HN.out]; exact oZ, ⟨kR.os, kR.tape, kR.output⟩⟩
          case round =>
            obtain ⟨j, sm, rfl, rfl, hj, hsm, hsb, oQ, kQ⟩ := hrel
            by_cases hlt2 : j < n
            · obtain ⟨t, ht⟩ : ∃ t, l[j]? = some t := ⟨_, List.getElem?_eq_getElem (by have := HN.out; omega)⟩
              obtain ⟨g2, so, rfl, d0, d1⟩ := hS _ _ (oQ.up 1) j _ ht
              have h2 := HRest.out t (List.mem_of_getElem? ht)
              have hget := truncs_get a s ht
              obtain ⟨x, y⟩ := t
              dsimp only at d0 d1 h2 hget
              obtain ⟨q, hq⟩ : ∃ q, (a * y).tdiv s = q := ⟨_, rfl⟩
              have hcall : ∀ (W : World) (R' : List SP), Own W R' → Calls Tryz.prog 176 #[.int .i64 a, .int .i64 y, .int .i64 s, .int .i64 1] W (Ret (.tuple #[.int .i64 q, .int .i64 0]) R' W) := fun W R' o' => by
                have := HMD.out y W R' h2.1 h2.2 o'
                rw [hq] at this; exact this
              have hy : y ≤ s := by rw [HT1.out]; exact mem_le_sumI (fun z hz => by
                obtain ⟨p, hp, rfl⟩ := List.mem_map.1 hz
                have := HRest.out p hp; omega) (List.mem_map.2 ⟨(x, y), List.mem_of_getElem? ht, rfl⟩)
              have hqa : ab q ≤ 36028797018963968 := by
                rw [← hq]
                exact Int.le_trans (trunc_abs a y s (by omega) hy (by omega)) HA.out
              have hla : (truncs a s (pws l)).length = l.length := by rw [truncs_len]; unfold pws; rw [List.length_map]
              have hA2 := HA.out
              have hj2 : (j : Int) ≤ 31 := by omega
              have hw : IntKind.i64.wrap (a - sm - q) = a - (sm + q) := by unfold ab at hsb hqa hA2; rw [IntKind.wrap_i64]; omega
              have hsb2 : ab (sm + q) ≤ ((j + 1 : Nat) : Int) * 36028797018963968 := by unfold ab at hsb hqa ⊢; omega
              rw [hq] at hget
              have HC := Lib.hid hcall
              have HB2 := Lib.hid hsb2
              have HNL := HN.out
              have c0z := zeros_at (j := j) hla (by omega)
              have hzs := zeros_set (n := l.length) hget (by omega)
              have hsm2 : sm + q = sumI ((truncs a s (pws l)).take (j + 1)) := by rw [take_next hget, sumI_snoc, ← hsm]
              have HS2 := Lib.hid hsm2
              have HZS := Lib.hid hzs
              have HZ := Lib.hid c0z
              have HNL2 := Lib.hid HNL
              clear hcall hq hy hqa hla hA2 hsb2 hsb hget c0z hzs hsm2 hsm HNL ht
              have oA := oQ
              go_wp2_with fail
              refine (HC.out _ _ oA).mono ?_
              rintro e3 w3 ⟨rfl, o3, k3⟩
              have c1 := o3.cell j HZ.out
              have hf := o3.frozen
              have hlt3 := o3.celLt
              have oS := o3.setCell j (.int .i64 q)
              rw [HZS.out] at oS
              go_wp2
              go_roundw
              case rel => exact ⟨j + 1, sm + q, by go_num, rfl, by have := HNL2.out; omega, HS2.out, HB2.out, oS, ⟨k3.os.trans kQ.os, k3.tape.trans kQ.tape, k3.output.trans kQ.output⟩⟩
              case measure => simp [ivOf]; omega
            · have hjl : j = l.length := by have := HN.out; omega
              subst hjl
              have hla : (truncs a s (pws l)).length = l.length := by rw [truncs_len]; unfold pws; rw [List.length_map]
              rw [zeros_end hla] at oQ
              rw [List.take_of_length_le (by omega)] at hsm
              obtain ⟨q0, ds, hds⟩ : ∃ q0 ds, truncs a s (pws l) = q0 :: ds := by
                cases hT : truncs a s (pws l) with
                | nil => rw [hT] at hla; have := H0.out; simp at hla; exact absurd (List.eq_nil_of_length_eq_zero hla.symm) this
                | cons q0 ds => exact ⟨_, _, rfl⟩
              rw [hds] at oQ hsm
              have c1 := oQ.cell 0
              have hf := oQ.frozen
              have hlt3 := oQ.celLt
              obtain ⟨p0, hp0⟩ : ∃ p, l[0]? = some p := ⟨_, List.getElem?_eq_getElem (by have := HN.out; omega)⟩
              have hq0 : ab q0 ≤ 36028797018963968 := by
                have h1 := truncs_get a s hp0
                rw [hds] at h1
                have h2 := HRest.out p0 (List.mem_of_getElem? hp0)
                have e : q0 = (a * p0.2).tdiv s := by simpa using h1
                rw [e]
                refine Int.le_trans (trunc_abs a p0.2 s (by omega) ?_ (by have := HT1.out; have := HTp.out; omega)) HA.out
                rw [HT1.out]; exact mem_le_sumI (fun z hz => by
                obtain ⟨p, hp, rfl⟩ := List.mem_map.1 hz
                have := HRest.out p hp; omega) (List.mem_map.2 ⟨p0, List.mem_of_getElem? hp0, rfl⟩)
              have hA2 := HA.out
              have hw : IntKind.i64.wrap (q0 + (a - sm)) = q0 + (a - sm) := by have := HN.out; unfold ab at hsb hq0 hA2; rw [IntKind.wrap_i64]; omega
              have oS := oQ.setCell 0 (.int .i64 (q0 + (a - sm)))
              have HDS := Lib.hid hds
              have HSM := Lib.hid hsm
              have HNL2 := Lib.hid HN.out
              clear hds hsm hsb hq0 hA2 hp0 hla
              go_wp2
              go_ret2
              have hne := H0.out
              have hds := HDS.out
              rw [HT1.out] at hds
              have hsm := HSM.out
              rw [hsm] at oS
              have := sh_end hds (by have := HNL2.out; omega) oS (Calm.trans kQ ⟨rfl, rfl, rfl⟩) hne
              rw [← HNL2.out, ← hsm] at this
              exact this
        · have f1 : decide (a < 0) = false := decide_eq_false hneg
          have hrd : (if a < 0 then (1 : Int) else 0) = 0 := if_neg hneg
          rw [hrd] at HMD
          have HA := Lib.hid ha
          have HNEG := Lib.hid hneg
          clear hneg ha hrd hT1
          go_wp2
          have oZ := oR.alloc (.cells (List.replicate n (Value.int .i64 0)).toArray 2)
          generalize hg : wr.heap.size = g at *
          have HG := Lib.hid hg
          clear hg
          go_loopw [9, 10] (fun v11 v41 wr' => SpRel2 a s l g Sp R w v11 v41 wr') (fun _ v _ => n - (ivOf v).toNat)
          case atStart => exact ⟨0, 0, rfl, by rw [Int.sub_zero], by omega, rfl, by decide, by rw [List.take_zero, Nat.sub_zero, ← HN.out]; exact oZ, ⟨kR.os, kR.tape, kR.output⟩⟩
          case round =>
            obtain ⟨j, sm, rfl, rfl, hj, hsm, hsb, oQ, kQ⟩ := hrel
            by_cases hlt2 : j < n
            · obtain ⟨t, ht⟩ : ∃ t, l[j]? = some t := ⟨_, List.getElem?_eq_getElem (by have := HN.out; omega)⟩
              obtain ⟨g2, so, rfl, d0, d1⟩ := hS _ _ (oQ.up 1) j _ ht
              have h2 := HRest.out t (List.mem_of_getElem? ht)
              have hget := truncs_get a s ht
              obtain ⟨x, y⟩ := t
              dsimp only at d0 d1 h2 hget
              obtain ⟨q, hq⟩ : ∃ q, (a * y).tdiv s = q := ⟨_, rfl⟩
              have hcall : ∀ (W : World) (R' : List SP), Own W R' → Calls Tryz.prog 176 #[.int .i64 a, .int .i64 y, .int .i64 s, .int .i64 0] W (Ret (.tuple #[.int .i64 q, .int .i64 0]) R' W) := fun W R' o' => by
                have := HMD.out y W R' h2.1 h2.2 o'
                rw [hq] at this; exact this
              have hy : y ≤ s := by rw [HT1.out]; exact mem_le_sumI (fun z hz => by
                obtain ⟨p, hp, rfl⟩ := List.mem_map.1 hz
                have := HRest.out p hp; omega) (List.mem_map.2 ⟨(x, y), List.mem_of_getElem? ht, rfl⟩)
              have hqa : ab q ≤ 36028797018963968 := by
                rw [← hq]
                exact Int.le_trans (trunc_abs a y s (by omega) hy (by omega)) HA.out
              have hla : (truncs a s (pws l)).length = l.length := by rw [truncs_len]; unfold pws; rw [List.length_map]
              have hA2 := HA.out
              have hj2 : (j : Int) ≤ 31 := by omega
              have hw : IntKind.i64.wrap (a - sm - q) = a - (sm + q) := by unfold ab at hsb hqa hA2; rw [IntKind.wrap_i64]; omega
              have hsb2 : ab (sm + q) ≤ ((j + 1 : Nat) : Int) * 36028797018963968 := by unfold ab at hsb hqa ⊢; omega
              rw [hq] at hget
              have HC := Lib.hid hcall
              have HB2 := Lib.hid hsb2
              have HNL := HN.out
              have c0z := zeros_at (j := j) hla (by omega)
              have hzs := zeros_set (n := l.length) hget (by omega)
              have hsm2 : sm + q = sumI ((truncs a s (pws l)).take (j + 1)) := by rw [take_next hget, sumI_snoc, ← hsm]
              have HS2 := Lib.hid hsm2
              have HZS := Lib.hid hzs
              have HZ := Lib.hid c0z
              have HNL2 := Lib.hid HNL
              clear hcall hq hy hqa hla hA2 hsb2 hsb hget c0z hzs hsm2 hsm HNL ht
              have oA := oQ
              go_wp2_with fail
              refine (HC.out _ _ oA).mono ?_
              rintro e3 w3 ⟨rfl, o3, k3⟩
              have c1 := o3.cell j HZ.out
              have hf := o3.frozen
              have hlt3 := o3.celLt
              have oS := o3.setCell j (.int .i64 q)
              rw [HZS.out] at oS
              go_wp2
              go_roundw
              case rel => exact ⟨j + 1, sm + q, by go_num, rfl, by have := HNL2.out; omega, HS2.out, HB2.out, oS, ⟨k3.os.trans kQ.os, k3.tape.trans kQ.tape, k3.output.trans kQ.output⟩⟩
              case measure => simp [ivOf]; omega
            · have hjl : j = l.length := by have := HN.out; omega
              subst hjl
              have hla : (truncs a s (pws l)).length = l.length := by rw [truncs_len]; unfold pws; rw [List.length_map]
              rw [zeros_end hla] at oQ
              rw [List.take_of_length_le (by omega)] at hsm
              obtain ⟨q0, ds, hds⟩ : ∃ q0 ds, truncs a s (pws l) = q0 :: ds := by
                cases hT : truncs a s (pws l) with
                | nil => rw [hT] at hla; have := H0.out; simp at hla; exact absurd (List.eq_nil_of_length_eq_zero hla.symm) this
                | cons q0 ds => exact ⟨_, _, rfl⟩
              rw [hds] at oQ hsm
              have c1 := oQ.cell 0
              have hf := oQ.frozen
              have hlt3 := oQ.celLt
              obtain ⟨p0, hp0⟩ : ∃ p, l[0]? = some p := ⟨_, List.getElem?_eq_getElem (by have := HN.out; omega)⟩
              have hq0 : ab q0 ≤ 36028797018963968 := by
                have h1 := truncs_get a s hp0
                rw [hds] at h1
                have h2 := HRest.out p0 (List.mem_of_getElem? hp0)
                have e : q0 = (a * p0.2).tdiv s := by simpa using h1
                rw [e]
                refine Int.le_trans (trunc_abs a p0.2 s (by omega) ?_ (by have := HT1.out; have := HTp.out; omega)) HA.out
                rw [HT1.out]; exact mem_le_sumI (fun z hz => by
                obtain ⟨p, hp, rfl⟩ := List.mem_map.1 hz
                have := HRest.out p hp; omega) (List.mem_map.2 ⟨p0, List.mem_of_getElem? hp0, rfl⟩)
              have hA2 := HA.out
              have hw : IntKind.i64.wrap (q0 + (a - sm)) = q0 + (a - sm) := by have := HN.out; unfold ab at hsb hq0 hA2; rw [IntKind.wrap_i64]; omega
              have oS := oQ.setCell 0 (.int .i64 (q0 + (a - sm)))
              have HDS := Lib.hid hds
              have HSM := Lib.hid hsm
              have HNL2 := Lib.hid HN.out
              clear hds hsm hsb hq0 hA2 hp0 hla
              go_wp2
              go_ret2
              have hne := H0.out
              have hds := HDS.out
              rw [HT1.out] at hds
              have hsm := HSM.out
              rw [hsm] at oS
              have := sh_end hds (by have := HNL2.out; omega) oS (Calm.trans kQ ⟨rfl, rfl, rfl⟩) hne
              rw [← HNL2.out, ← hsm] at this
              exact this
end
end Go.Proofs.YtkmlkpfabkhleaaGreat

/- Shares with caps: shares.Fill. -/
namespace Go.Proofs.YtkmlkpfabkhleaaGreat
open Go.RowKit
open SP
section
variable {w w' : World} {R : List SP}

def pik (l : List (Int × Int)) (I : List Nat) : List (Int × Int) := I.map fun j => l.getD j (0, 0)
theorem pik_len (l : List (Int × Int)) (I : List Nat) : (pik l I).length = I.length := by unfold pik; rw [List.length_map]
theorem getD_at {α : Type} {l : List α} {j : Nat} {x d : α} (h : l[j]? = some x) : l.getD j d = x := by rw [List.getD_eq_getElem?_getD, h]; rfl
theorem getD_snd (l : List (Int × Int)) (j : Nat) : (l.getD j (0, 0)).2 = (l.map (·.2)).getD j 0 := by
  rw [List.getD_eq_getElem?_getD, List.getD_eq_getElem?_getD, List.getElem?_map]
  cases l[j]? <;> rfl
theorem pik_pws (l : List (Int × Int)) (I : List Nat) : pws (pik l I) = I.map fun j => (l.map (·.2)).getD j 0 := by
  unfold pws pik
  rw [List.map_map]
  exact List.map_congr_left fun j _ => getD_snd l j
theorem pik_ok {l : List (Int × Int)} (h : PtOk l) {I : List Nat} (ha : I.Pairwise (· < ·)) (hI : ∀ i ∈ I, i < l.length) (hl : I.length ≤ 32) : PtOk (pik l I) := by
  have hm : ∀ i ∈ I, l.getD i (0, 0) ∈ l := fun i hi => by
    rw [getD_at (List.getElem?_eq_getElem (hI i hi))]; exact List.getElem_mem _
  refine ⟨?_, fun p hp => ?_, by rw [pik_len]; exact hl⟩
  · unfold pik
    rw [List.pairwise_map]
    refine List.Pairwise.imp_of_mem (fun {a b} h1 h2 hab => ?_) ha
    rw [getD_at (List.getElem?_eq_getElem (hI a h1)), getD_at (List.getElem?_eq_getElem (hI b h2))]
    exact List.pairwise_iff_getElem.1 h.asc a b (hI a h1) (hI b h2) hab
  · unfold pik at hp
    obtain ⟨i, hi, rfl⟩ := List.mem_map.1 hp
    exact h.rng _ (hm i hi)
theorem Tryz.intFi : ElemT Tryz.prog 22 3 1 8 := ElemT.mk' Tryz.underlying22 (z := .int .i64 0) (by kernel_rfl) (by kernel_rfl) (by omega)
def natV (os : List Nat) : List Value := os.map fun (k : Nat) => .int .i64 (k : Int)
theorem natV_get {os : List Nat} {i a : Nat} (h : os[i]? = some a) : (natV os)[i]? = some (.int .i64 (a : Int)) := by unfold natV; rw [List.getElem?_map, h]; rfl
theorem i64s_get {l : List Int} {i : Nat} {x : Int} (h : l[i]? = some x) : (i64s l)[i]? = some (.int .i64 x) := by unfold i64s; rw [List.getElem?_map, h]; rfl
theorem i64s_set (l : List Int) (i : Nat) (v : Int) : i64s (l.set i v) = (i64s l).set i (.int .i64 v) := by unfold i64s; rw [List.map_set]
theorem i64s_zeros (n : Nat) : i64s (List.replicate n 0) = List.replicate n (.int .i64 0) := by unfold i64s; rw [List.map_replicate]
theorem pt_ws {l : List (Int × Int)} (h : PtOk l) {i : Nat} (hi : i < l.length) : 1 ≤ (l.map (·.2)).getD i 0 := by
  rw [← getD_snd, getD_at (List.getElem?_eq_getElem hi)]
  exact (h.rng _ (List.getElem_mem hi)).2.2.1
/-- The open parts, one more. -/
theorem pik_succ (l : List (Int × Int)) (cs gs : List Int) (i : Nat) {p : Int × Int} (hp : l[i]? = some p) (h : gs.getD i 0 < cs.getD i 0) : flat part (pik l (opI cs gs (i + 1))) = flat part (pik l (opI cs gs i)) ++ [.int .i64 p.1, .int .i64 p.2] := by
  rw [opI_succ, if_pos h]
  unfold pik
  rw [List.map_append, flat_append]
  congr 1
  show flat part [l.getD i (0, 0)] = _
  rw [getD_at hp]; rfl
theorem natV_succ (cs gs : List Int) (i : Nat) (h : gs.getD i 0 < cs.getD i 0) : natV (opI cs gs (i + 1)) = natV (opI cs gs i) ++ [.int .i64 (i : Int)] := by
  rw [opI_succ, if_pos h]; unfold natV; rw [List.map_append]; rfl
theorem opI_lenS (cs gs : List Int) (i : Nat) (h : gs.getD i 0 < cs.getD i 0) : (opI cs gs (i + 1)).length = (opI cs gs i).length + 1 := by
  rw [opI_succ, if_pos h, List.length_append]; rfl
theorem opI_same (cs gs : List Int) (i : Nat) (h : ¬ gs.getD i 0 < cs.getD i 0) : opI cs gs (i + 1) = opI cs gs i := by rw [opI_succ, if_neg h]
/-- One share more. -/
theorem fil_take {cs : List Int} {I : List Nat} {X : List Int} {s : List Int × Int} {k i : Nat} {x : Int} (hi : I[k]? = some i) (hx : X[k]? = some x) :
    ((I.zip X).take (k + 1)).foldl (fil1 cs) s = fil1 cs (((I.zip X).take k).foldl (fil1 cs) s) (i, x) := by
  have : (I.zip X)[k]? = some (i, x) := by rw [List.getElem?_zip_eq_some]; exact ⟨hi, hx⟩
  rw [List.take_add_one, this, List.foldl_append]
  rfl

abbrev PsS (ap : Option Addr) (n pc : Nat) (l : List (Int × Int)) : SP := slc 162 2 ap n pc (flat part l)
abbrev IsS (ac : Option Addr) (n cc : Nat) (cs : List Int) : SP := slc 2 1 ac n cc (i64s cs)
def F0Rel (P : List SP) (n : Nat) (w : World) (v : Value) (wr : World) : Prop := ∃ i : Nat, v = .int .i64 (i : Int) ∧ i ≤ n ∧ Own wr P ∧ Calm w wr
def FoRel (P : List SP) (g : Nat) (cs ws : List Int) (a : Int) (F : List Int × Int) (w : World) (v0 : Value) (wr : World) : Prop :=
  ∃ (gs : List Int) (rest : Int), v0 = .int .i64 rest ∧ FilOk cs gs ∧ 0 ≤ rest ∧ rest ≤ a ∧ filF cs ws (gs, rest) = F ∧ Own wr (cel g 2 (i64s gs) :: P) ∧ Calm w wr
def F1Rel (P : List SP) (n : Nat) (l : List (Int × Int)) (cs gs : List Int) (w : World) (v12 v13 v55 : Value) (wr : World) : Prop :=
  ∃ (i k : Nat) (a12 a13 : Option Addr) (c12 c13 : Nat), v55 = .int .i64 (i : Int) ∧ i ≤ n ∧ v12 = .slice a12 k c12 ∧ v13 = .slice a13 k c13 ∧ k = (opI cs gs i).length ∧
    Own wr (slc 162 2 a12 k c12 (flat part (pik l (opI cs gs i))) :: slc 3 1 a13 k c13 (natV (opI cs gs i)) :: P) ∧ Calm w wr
def F2Rel (P : List SP) (g : Nat) (cs : List Int) (I : List Nat) (X : List Int) (s : List Int × Int) (w : World) (v0 v89 : Value) (wr : World) : Prop :=
  ∃ k : Nat, v89 = .int .i64 (k : Int) ∧ k ≤ I.length ∧ v0 = .int .i64 (((I.zip X).take k).foldl (fil1 cs) s).2 ∧ Own wr (cel g 2 (i64s (((I.zip X).take k).foldl (fil1 cs) s).1) :: P) ∧ Calm w wr
def FilPost (a : Int) (ws cs : List Int) (n : Nat) (P : List SP) (w : World) (e : Ending) (w' : World) : Prop :=
  ∃ (g : Option Addr) (c : Nat), e = .returned (.tuple #[.slice g n c, .int .i64 (fillI a ws cs).2, .int .i64 0]) ∧ Own w' (IsS g n c (fillI a ws cs).1 :: P) ∧ Calm w w'
theorem fil_end {g n : Nat} {gs : List Int} {P : List SP} (hn : gs.length = n) (hl : n ≤ 32) (o : Own w (cel g 2 (i64s gs) :: P)) : Own w (IsS (some ⟨g, 0, none⟩) n n gs :: P) := by
  refine Own.slc.2 (.inr ⟨g, [], rfl, by omega, by unfold maxLen; omega, ?_, by simp, ?_⟩)
  · unfold i64s; rw [List.length_map, hn, Nat.mul_one]
  · rw [List.append_nil]; exact o

set_option maxHeartbeats 6400000 in
set_option maxRecDepth 100000 in
theorem shFill_spec {a : Int} {l : List (Int × Int)} {cs : List Int} {ap ac : Option Addr} {n pc cc : Nat} (ha0 : 0 ≤ a) (ha1 : a ≤ 1099511627776) (hok : PtOk l) (hn : n = l.length) (hc : n = cs.length) (hcs : ∀ i, 0 ≤ cs.getD i 0 ∧ cs.getD i 0 ≤ 2199023255552)
    (o : Own w (PsS ap n pc l :: IsS ac n cc cs :: R)) :
    Calls Tryz.prog 121 #[.int .i64 a, .slice ap n pc, .slice ac n cc] w (FilPost a (l.map (·.2)) cs n (PsS ap n pc l :: IsS ac n cc cs :: R) w) := by
  have hv := shValid_spec (c := pc) (partsAt_slc ap n pc l hn) hok hn o
  have hl := hok.len
  have hn2 : n ≤ 32 := by omega
  have hmk := makeI_run n (by omega)
  have hws : ∀ i, i < cs.length → 1 ≤ (l.map (·.2)).getD i 0 := fun i hi => pt_ws hok (by omega)
  obtain ⟨ws, hwse⟩ : ∃ ws, l.map (·.2) = ws := ⟨_, rfl⟩
  have hPW := fun I => pik_pws l I
  rw [hwse] at hws ⊢
  simp only [hwse] at hPW
  have HWS := Lib.hid hws
  have HPW := Lib.hid hPW
  have HN := Lib.hid hn
  have HC := Lib.hid hc
  have HOK := Lib.hid hok
  have HCS := Lib.hid hcs
  have hd0 : decide (a < 0) = false := decide_eq_false (by omega)
  have hz : FilOk cs (List.replicate n 0) := by rw [hc]; exact FilOk.zeros fun i => (hcs i).1
  have HZ := Lib.hid hz
  have HF := Lib.hid (show fillI a ws cs = filF cs ws (List.replicate n 0, a) from by rw [hc]; rfl)
  obtain ⟨PP, hPP⟩ : ∃ PP, PsS ap n pc l :: IsS ac n cc cs :: R = PP := ⟨_, rfl⟩
  have HPP := Lib.hid hPP
  clear hn hc hok hcs hws hPW hwse hl hz hPP
  go_enter Tryz.func121, Tryz.ntmps121
  go_wp2_with fail
  refine hv.mono ?_
  rintro e1 w1 ⟨rfl, o1, k1⟩
  clear hv
  go_wp2
  go_loopw [37] (fun v wr => F0Rel (PsS ap n pc l :: IsS ac n cc cs :: R) n w v wr) (fun v _ => n - (ivOf v).toNat)
  case atStart => exact ⟨0, rfl, Nat.zero_le _, o1, k1⟩
  case round =>
    clear o1 k1 o
    obtain ⟨i, rfl, hi, oR, kR⟩ := hrel
    by_cases hlt : i < n
    · obtain ⟨c, hcc⟩ : ∃ c, cs[i]? = some c := ⟨_, List.getElem?_eq_getElem (by have := HC.out; omega)⟩
      obtain ⟨gc, rfl, hcel, _, _⟩ := (oR.up 1).slc_cell (by omega)
      have d0 := hcel i _ (i64s_get hcc)
      have hb := HCS.out i
      rw [getD_at hcc] at hb
      have f1 : decide (c < 0) = false := decide_eq_false (by omega)
      have f2 : decide (2199023255552 < c) = false := decide_eq_false (by omega)
      clear hcel hcc
      go_wp2
      go_roundw
      case rel => exact ⟨i + 1, by go_num, by omega, oR, kR⟩
      case measure => simp [ivOf]; omega
    · have hin : i = n := by omega
      subst hin
      have oZ := oR.alloc (.cells (List.replicate i (Value.int .i64 0)).toArray 2)
      have oZ2 : Own (wr.alloc (.cells (List.replicate i (Value.int .i64 0)).toArray 2)) (cel wr.heap.size 2 (i64s (List.replicate i 0)) :: PsS ap i pc l :: IsS ac i cc cs :: R) := by rw [i64s_zeros]; exact oZ
      have kZ : Calm w (wr.alloc (.cells (List.replicate i (Value.int .i64 0)).toArray 2)) := ⟨kR.os, kR.tape, kR.output⟩
      go_wp2
      obtain ⟨g, hg⟩ : ∃ g, wr.heap.size = g := ⟨_, rfl⟩
      rw [hg] at oZ2 ⊢
      clear hg oZ oR
      go_loopw [0] (fun v wr => FoRel (PsS ap i pc l :: IsS ac i cc cs :: R) g cs ws a (fillI a ws cs) w v wr) (fun v _ => (ivOf v).toNat)
      case atStart => exact ⟨List.replicate i 0, a, rfl, HZ.out, ha0, Int.le_refl _, HF.out.symm, oZ2, kZ⟩
      case round =>
        clear oZ2 kZ kR hmk
        obtain ⟨gs, rest, rfl, hfo, hr0, hr1, hfin, oQ, kQ⟩ := hrel
        have HFO := Lib.hid hfo
        have HFI := Lib.hid hfin
        clear hfo hfin
        by_cases hpos : 0 < rest
        · have hpd : decide (0 < rest) = true := decide_eq_true hpos
          have hT : F1Rel (cel g 2 (i64s gs) :: PsS ap i pc l :: IsS ac i cc cs :: R) i l cs gs w (.slice none 0 0) (.slice none 0 0) (.int .i64 0) wr := ⟨0, 0, none, none, 0, 0, rfl, Nat.zero_le _, rfl, rfl, rfl, Own.slc_nil (Own.slc_nil oQ), kQ⟩
          clear oQ kQ
          go_wp2
          go_loopw [12, 13, 55] (fun v12 v13 v55 wr => F1Rel (cel g 2 (i64s gs) :: PsS ap i pc l :: IsS ac i cc cs :: R) i l cs gs w v12 v13 v55 wr) (fun _ _ v _ => i - (ivOf v).toNat)
          case atStart => exact hT
          case round =>
            clear hT
            obtain ⟨j, k, a12, a13, c12, c13, rfl, hj, rfl, rfl, hk, oS, kS⟩ := hrel
            have hkj := opI_len cs gs j
            have HK := Lib.hid hk
            by_cases hlt2 : j < i
            · obtain ⟨p, hp⟩ : ∃ p, l[j]? = some p := ⟨_, List.getElem?_eq_getElem (by have := HN.out; omega)⟩
              obtain ⟨c, hcc⟩ : ∃ c, cs[j]? = some c := ⟨_, List.getElem?_eq_getElem (by have := HC.out; omega)⟩
              obtain ⟨y, hy⟩ : ∃ y, gs[j]? = some y := ⟨_, List.getElem?_eq_getElem (by have := HFO.out.len; have := HC.out; omega)⟩
              obtain ⟨gp, rfl, q0, q1⟩ := part_cells (oS.up 3) hp (by omega)
              have oP := oS.alloc (.cells #[.int .i64 p.1, .int .i64 p.2] 162)
              obtain ⟨gc, rfl, hcel, _, _⟩ := (oP.up 5).slc_cell (by omega)
              have d0 := hcel j _ (i64s_get hcc)
              have e0 := (oP.up 3).cell j (i64s_get hy)
              have hk32 : k ≤ 32 := by omega
              have hgc : (gs.getD j 0 < cs.getD j 0) = (y < c) := by rw [getD_at hy, getD_at hcc]
              have HP := Lib.hid hp
              by_cases hyc : y < c
              · have hop := hgc.mpr hyc
                have HF1 := Lib.hid (pik_succ l cs gs j hp hop)
                have HF2 := Lib.hid (natV_succ cs gs j hop)
                have HF3 := Lib.hid (opI_lenS cs gs j hop)
                have hyd : decide (y < c) = true := decide_eq_true hyc
                clear hop hgc hcel hcc hy hk hp
                obtain ⟨p0, p1⟩ := p
                dsimp only at q0 q1 oP HF1
                have r0 := oP.cell (T := 162) (vs := [.int .i64 p0, .int .i64 p1]) 0
                have r1 := oP.cell (T := 162) (vs := [.int .i64 p0, .int .i64 p1]) 1
                have rl := oP.celLt (T := 162) (vs := [.int .i64 p0, .int .i64 p1])
                have oPn : ∀ q, Own (((wr.alloc (.cells #[.int .i64 p0, .int .i64 p1] 162)).drewN q).alloc (.cells #[.int .i64 p0, .int .i64 p1] 162)) (cel (wr.heap.size + 1) 162 [.int .i64 p0, .int .i64 p1] :: cel wr.heap.size 162 [.int .i64 p0, .int .i64 p1] :: slc 162 2 a12 k c12 (flat part (pik l (opI cs gs j))) :: slc 3 1 a13 k c13 (natV (opI cs gs j)) :: cel g 2 (i64s gs) :: PsS (some ⟨gp, 0, none⟩) i pc l :: IsS (some ⟨gc, 0, none⟩) i cc cs :: R) := fun q => by
                  have := (oP.drewN q).alloc (.cells #[.int .i64 p0, .int .i64 p1] 162)
                  rw [show ((wr.alloc (.cells #[.int .i64 p0, .int .i64 p1] 162)).drewN q).heap.size = wr.heap.size + 1 from World.size_alloc _ _] at this
                  exact this
                go_wp2
                go_quiet (fail)
                go_wp2_with (at_builtin; refine wpList_append_slc rfl _ _ rfl Tryz.partT rfl ((oPn _).up 2) ⟨wr.heap.size + 1, 0, none⟩ 1 1 [.int .i64 p0, .int .i64 p1] rfl rfl (Own.news (T := 162) (vs := [.int .i64 p0, .int .i64 p1]) (oPn _)) (by intro u hu; simp at hu; rcases hu with rfl | rfl <;> rfl) (by unfold maxLen; omega) (by omega) ?k2)
                case k2 =>
                intro a5 c5 w5 o5 k5
                have oP5 := o5.alloc (.cells #[.int .i64 (j : Int)] 3)
                go_wp2_with (at_builtin; refine wpList_append_slc rfl _ _ rfl Tryz.intFi rfl (oP5.up 4) ⟨w5.heap.size, 0, none⟩ 1 1 [.int .i64 (j : Int)] rfl rfl (Own.news (T := 3) (vs := [.int .i64 (j : Int)]) oP5) (by intro u hu; simp at hu; rcases hu with rfl; rfl) (by unfold maxLen; omega) (by omega) ?k3)
                case k3 =>
                intro a7 c7 w7 o7 k7
                go_wp2
                go_roundw
                case rel => exact ⟨j + 1, k + 1, a5, a7, c5, c7, by go_num, by omega, rfl, rfl, by rw [HF3.out, ← HK.out], by rw [HF1.out, HF2.out]; exact (o7.re [1, 3, 4] 3).re [1, 0], kS.trans (Calm.trans ⟨k5.al.os, k5.al.tape, k5.al.output⟩ k7.al)⟩
                case measure => simp [ivOf]; omega
              · have hop := fun h => hyc (hgc.mp h)
                have HF1 := Lib.hid (opI_same cs gs j hop)
                have hyd : decide (y < c) = false := decide_eq_false hyc
                clear hop hgc hcel hcc hy hk hp
                obtain ⟨p0, p1⟩ := p
                dsimp only at q0 q1 oP
                go_wp2
                go_quiet (fail)
                go_wp2
                go_roundw
                case rel => exact ⟨j + 1, k, a12, a13, c12, c13, by go_num, by omega, rfl, rfl, by rw [HF1.out, ← HK.out], by rw [HF1.out]; exact (oP.drewN _).drop, kS.trans ⟨rfl, rfl, rfl⟩⟩
                case measure => simp [ivOf]; omega
            · have hji : i = j := by omega
              subst hji
              have HCn := Lib.hid HC.out
              have hIlt : ∀ q ∈ opI cs gs i, q < i := fun q hq => (opI_mem hq).1
              have HI := Lib.hid (show opI cs gs cs.length = opI cs gs i by rw [← HC.out])
              have HIL := Lib.hid hIlt
              have HIA := Lib.hid (opI_asc cs gs i)
              obtain ⟨I, hIe⟩ : ∃ I, opI cs gs i = I := ⟨_, rfl⟩
              rw [hIe] at oS hk hkj HI HIL HIA HK
              have HIe := Lib.hid hIe
              clear hIe hIlt
              by_cases hk0 : k = 0
              · have hI0 : I = [] := List.eq_nil_of_length_eq_zero (by omega)
                have HEN := Lib.hid (filF_end (ws := ws) (s := (gs, rest)) (.inr (by show opI cs gs cs.length = []; rw [HI.out, hI0])))
                have HGL := Lib.hid HFO.out.len
                subst hk0
                clear hk hkj hI0
                go_wp2
                go_ret3
                have hF2 : fillI a ws cs = (gs, rest) := HFI.out.symm.trans HEN.out
                refine ⟨some ⟨g, 0, none⟩, i, ?_, ?_, kS⟩
                · rw [hF2]; rfl
                · rw [hF2]; exact fil_end (by rw [HGL.out, HC.out]) hn2 oS.drop.drop
              · have hkk : ((k : Int) == 0) = false := by simpa using hk0
                have hptI : PtOk (pik l I) := pik_ok HOK.out HIA.out (fun q hq => by have := HIL.out q hq; have := HN.out; omega) (by omega)
                have hsp := shSplit_spec (w := wr) (c := c12) rest (by unfold ab; omega) (partsAt_slc a12 k c12 (pik l I) (hk.trans (pik_len l I).symm)) hptI (hk.trans (pik_len l I).symm) oS
                have hplen : (pik l I).length = k := by rw [pik_len]; exact hk.symm
                have hsI : I ≠ [] := fun e => hk0 (by rw [hk, e]; rfl)
                have hp0 : pik l I ≠ [] := fun e => hsI (List.eq_nil_of_length_eq_zero (by rw [← pik_len l I, e]; rfl))
                have hX : lagSplit rest (pws (pik l I)) = lagSplit rest (I.map fun j => ws.getD j 0) := by rw [HPW.out]
                have hXl : (lagSplit rest (I.map fun j => ws.getD j 0)).length = k := by rw [lagSplit_len, List.length_map]; exact hk.symm
                have hround := filF_round (s := (gs, rest)) HFO.out HWS.out hpos (by show opI cs gs cs.length ≠ []; rw [HI.out]; exact hsI)
                have hrok := filR_ok (s := (gs, rest)) HFO.out HWS.out hpos (by show opI cs gs cs.length ≠ []; rw [HI.out]; exact hsI)
                have hzok := fun k => filZ_ok (s := (gs, rest)) HFO.out HWS.out hpos k
                have hXn : ∀ x ∈ lagSplit rest (I.map fun j => ws.getD j 0), 0 ≤ x := lagSplit_nonneg (by omega) fun x hx => by
                  obtain ⟨j, hj, rfl⟩ := List.mem_map.1 hx
                  exact HWS.out j (by have := HIL.out j hj; have := HC.out; omega)
                have hXs : ∀ x ∈ lagSplit rest (I.map fun j => ws.getD j 0), x ≤ rest := fun x hx => by
                  have h1 := mem_le_sumI hXn hx
                  rw [lagSplit_sum rest (by simpa using hsI)] at h1
                  exact h1
                unfold filR at hround hrok
                dsimp only at hround hrok hzok
                rw [HI.out] at hround hrok hzok
                unfold ShPost at hsp
                rw [hX, hplen, if_neg hp0] at hsp
                obtain ⟨X, hXe⟩ : ∃ X, lagSplit rest (I.map fun j => ws.getD j 0) = X := ⟨_, rfl⟩
                rw [hXe] at hround hrok hzok hXl hXn hXs hsp
                have HRD := Lib.hid hround
                have HRO := Lib.hid hrok
                have HZO := Lib.hid hzok
                have HXL := Lib.hid hXl
                have HXN := Lib.hid hXn
                have HXS := Lib.hid hXs
                clear hX hXe hround hrok hzok hXl hXn hXs hp0 hsI hplen hptI
                have hkI := Lib.hid hk
                have hk32 : k ≤ 32 := by omega
                clear hk hkj
                go_wp2_with fail
                refine hsp.mono ?_
                rintro e3 w3 ⟨g2, cg, rfl, o3, k3⟩
                clear hsp oS
                have hT : F2Rel (slc 2 1 g2 k cg (i64s X) :: slc 3 1 a13 k c13 (natV I) :: PsS ap i pc l :: IsS ac i cc cs :: R) g cs I X (gs, rest) w (.int .i64 rest) (.int .i64 0) w3 := ⟨0, rfl, Nat.zero_le _, rfl, (o3.re [1] 1).re [2, 0, 1], kS.trans k3⟩
                clear o3 k3 kS
                go_wp2
                go_loopw [0, 89] (fun v0 v89 wr => F2Rel (slc 2 1 g2 k cg (i64s X) :: slc 3 1 a13 k c13 (natV I) :: PsS ap i pc l :: IsS ac i cc cs :: R) g cs I X (gs, rest) w v0 v89 wr) (fun _ v _ => k - (ivOf v).toNat)
                case atStart => exact hT
                case round =>
                  clear hT
                  obtain ⟨q, rfl, hq, rfl, oT, kT⟩ := hrel
                  by_cases hlt3 : q < k
                  · obtain ⟨j, hj⟩ : ∃ j, I[q]? = some j := ⟨_, List.getElem?_eq_getElem (by have := hkI.out; omega)⟩
                    obtain ⟨x, hx⟩ : ∃ x, X[q]? = some x := ⟨_, List.getElem?_eq_getElem (by have := HXL.out; omega)⟩
                    have hji := HIL.out j (List.mem_of_getElem? hj)
                    have hx0 := HXN.out x (List.mem_of_getElem? hx)
                    have hx1 := HXS.out x (List.mem_of_getElem? hx)
                    have hzq := HZO.out q
                    have hst := fil_take (cs := cs) (s := (gs, rest)) hj hx
                    obtain ⟨S, hS⟩ : ∃ S, ((I.zip X).take q).foldl (fil1 cs) (gs, rest) = S := ⟨_, rfl⟩
                    rw [hS] at hzq hst oT ⊢
                    clear hS
                    obtain ⟨G, t⟩ := S
                    dsimp only at hzq oT ⊢
                    obtain ⟨z1, z2, z3, z4⟩ := hzq
                    have hGl := z1.len
                    have hGr := z1.rng j
                    obtain ⟨y, hy⟩ : ∃ y, G[j]? = some y := ⟨_, List.getElem?_eq_getElem (by have := HC.out; omega)⟩
                    obtain ⟨c, hcc⟩ : ∃ c, cs[j]? = some c := ⟨_, List.getElem?_eq_getElem (by have := HC.out; omega)⟩
                    have hf1 : fil1 cs (G, t) (j, x) = (G.set j (y + min x (c - y)), t - min x (c - y)) := by
                      unfold fil1
                      dsimp only
                      rw [getD_at hy, getD_at hcc]
                    rw [hf1] at hst
                    rw [getD_at hy, getD_at hcc] at hGr
                    have hcb := HCS.out j
                    rw [getD_at hcc] at hcb
                    have wa := IntWalk.i64_in (c - y) (by omega)
                    have hm1 : min x (c - y) ≤ x := Int.min_le_left _ _
                    have hm2 : min x (c - y) ≤ c - y := Int.min_le_right _ _
                    have hm3 : 0 ≤ min x (c - y) := by rw [Int.le_min]; omega
                    obtain ⟨v, hv⟩ : ∃ v, min x (c - y) = v := ⟨_, rfl⟩
                    rw [hv] at hst hm1 hm2 hm3
                    have hv2 : (if c - y < x then c - y else x) = v := by rw [← hv]; split <;> omega
                    have wb := IntWalk.i64_in (y + v) (by omega)
                    have wc := IntWalk.i64_in (t - v) (by omega)
                    obtain ⟨gx, rfl, hcx, _, _⟩ := (oT.up 1).slc_cell (by omega)
                    have d0 := hcx q _ (i64s_get hx)
                    obtain ⟨gi, rfl, hci, _, _⟩ := (oT.up 2).slc_cell (by omega)
                    have d1 := hci q _ (natV_get hj)
                    obtain ⟨gc, rfl, hcc2, _, _⟩ := (oT.up 4).slc_cell (by omega)
                    have d2 := hcc2 j _ (i64s_get hcc)
                    have d3 := oT.cell j (i64s_get hy)
                    have df := oT.frozen
                    have dl := oT.celLt
                    have oU := oT.setCell j (.int .i64 (y + v))
                    rw [← i64s_set] at oU
                    have HST := Lib.hid hst
                    clear hst hcx hci hcc2 hx hj hy hcc hGr z1 z2 hcb hGl
                    clear hm1 hm2 hm3 hx0 hx1 z3 z4 hf1
                    go_wp2
                    go_quiet (fail)
                    go_wp2
                    go_roundw
                    case rel => exact ⟨q + 1, by go_num, by have := hkI.out; omega, by rw [HST.out], by rw [HST.out]; exact oU.drewN _, kT.trans ⟨rfl, rfl, rfl⟩⟩
                    case measure => simp [ivOf]; omega
                  · have hqk : q = I.length := by have := hkI.out; omega
                    have hro := HRO.out
                    have hrd := HRD.out
                    rw [List.take_of_length_le (by rw [List.length_zip]; omega)] at oT ⊢
                    have hfi := HFI.out
                    rw [hrd] at hfi
                    obtain ⟨S, hS⟩ : ∃ S, (I.zip X).foldl (fil1 cs) (gs, rest) = S := ⟨_, rfl⟩
                    rw [hS] at hro hfi oT ⊢
                    obtain ⟨G, t⟩ := S
                    dsimp only at hro hfi oT ⊢
                    obtain ⟨z1, z2, z3, z4⟩ := hro
                    clear hrd hS
                    have HFI2 := Lib.hid hfi
                    have HZ1 := Lib.hid z1
                    clear hfi z1 z2
                    go_wp2
                    go_roundw
                    case rel => exact ⟨G, t, rfl, HZ1.out, z4, by omega, HFI2.out, (oT.re [1, 2] 2), kT⟩
                    case measure => simp [ivOf]; omega
        · have hr : rest = 0 := by omega
          have HEN := Lib.hid (filF_end (cs := cs) (ws := ws) (s := (gs, rest)) (.inl (by show rest ≤ 0; omega)))
          have HGL := Lib.hid HFO.out.len
          have hpd : decide (0 < rest) = false := decide_eq_false hpos
          clear hr
          go_wp2
          go_ret3
          have hF2 : fillI a ws cs = (gs, rest) := HFI.out.symm.trans HEN.out
          refine ⟨some ⟨g, 0, none⟩, i, ?_, ?_, kQ⟩
          · rw [hF2]; rfl
          · rw [hF2]; exact fil_end (by rw [HGL.out, HC.out]) hn2 oQ
end
end Go.Proofs.YtkmlkpfabkhleaaGreat
