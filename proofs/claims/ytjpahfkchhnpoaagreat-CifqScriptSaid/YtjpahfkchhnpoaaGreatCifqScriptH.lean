/- Texts that the law rests on, put together by a program. -/
import Derived.Test.YtjpahfkchhnpoaaGreatCifqScriptE
import Derived.Test.YtjpahfkchhnpoaaGreatCifqScriptG
import Derived.Test.YtjpahfkchhnpoaaGreatCifqScriptC
import Derived.Test.YtjpahfkchhnpoaaGreatCifqScriptD
import Derived.StillTailTactics
import Derived.Test.YtjpahfkchhnpoaaGreatCifqScriptB
import Derived.Deep.RegionLaw
import Derived.Deep.DeepCutAuto
import Derived.Deep.CutBlock
import Derived.Deep.RegionWith
/- Both references: their relation, and each operation on both. -/
namespace Go.Proofs.YtjpahfkchhnpoaaGreat
open Go.RowKit
open SP
section
variable {P : SP} {W w w' : World} {R : List SP} {b : Nat} {at_ now aw : Int} {L O : List Tg}
set_option maxHeartbeats 3200000 in
set_option maxRecDepth 100000 in
theorem joinT_bad (f wt : Int) (hb : f < 0 ∨ 32 ≤ f ∨ wt < 1 ∨ 16 < wt) :
    Calls Tryz.prog 41 #[.pointer (some ⟨b, 0, none⟩), .int .i64 f, .int .i64 wt] w (IsRet (.int .i64 1) w) := by
  have hgw := goodW_spec wt w
  by_cases h1 : f < 0
  · clear hb hgw
    go_enter Tryz.func41, Tryz.ntmps41
    go_wp2
    go_ret
    exact ⟨rfl, rfl⟩
  · by_cases h2 : 32 ≤ f
    · clear hb hgw
      go_enter Tryz.func41, Tryz.ntmps41
      go_wp2
      go_ret
      exact ⟨rfl, rfl⟩
    · have hd : decide (1 ≤ wt ∧ wt ≤ 16) = false := by
        rw [decide_eq_false_iff_not]; omega
      rw [hd] at hgw
      clear hb hd
      go_enter Tryz.func41, Tryz.ntmps41
      go_wp2_with fail
      refine hgw.mono ?_
      rintro e1 w1 ⟨rfl, rfl⟩
      go_wp2
      go_ret
      exact ⟨rfl, rfl⟩
set_option maxHeartbeats 3200000 in
set_option maxRecDepth 100000 in
theorem joinT_dup (f wt : Int) (hf : 0 ≤ f ∧ f < 32) (hw : 1 ≤ wt ∧ wt ≤ 16) {t : Tg} (hn : fget L f = some t) (hL : L.length ≤ 1000) (o : Own w (RefT P b at_ L O now aw :: P :: R)) :
    Calls Tryz.prog 41 #[.pointer (some ⟨b, 0, none⟩), .int .i64 f, .int .i64 wt] w (IsRet (.int .i64 7) w) := by
  have hat := index_spec f hL o
  obtain ⟨i, hi, hai⟩ := idxT_some 0 L hn
  rw [hai, Nat.zero_add] at hat
  have hgw := goodW_spec wt w
  have hdw : decide (1 ≤ wt ∧ wt ≤ 16) = true := by simp; exact hw
  rw [hdw] at hgw
  obtain ⟨hf0, hf1⟩ := hf
  clear hdw hn hw hi hai
  go_enter Tryz.func41, Tryz.ntmps41
  go_wp2_with fail
  refine hgw.mono ?_
  rintro e1 w1 ⟨rfl, rfl⟩
  go_wp2_with fail
  refine hat.mono ?_
  rintro e2 w2 ⟨rfl, rfl⟩
  go_wp2
  go_ret
  exact ⟨rfl, rfl⟩
end

/-- Behind N acts. -/
structure RelT (N : Nat) (S : St) (O : List Tg) : Prop where
  ok : StOk S
  r : R12 S O
  ol : O.length ≤ N
  aw0 : 0 ≤ S.aw
  aw1 : S.aw ≤ N * 1099511627776
theorem RelT.start : RelT 0 St0 [] := ⟨StOk.start, R12.start, by simp, by simp [St0], by simp [St0]⟩
theorem RelT.next {N : Nat} {S : St} {O : List Tg} (h : RelT N S O) : RelT (N + 1) S O := ⟨h.ok, h.r, by have := h.ol; omega, h.aw0, by have := h.aw1; push_cast; omega⟩

/-- One operation on both. -/
structure BothT (fp fr : Nat) (args : Value → Array Value) (reb er : Int) (S : St) (O : List Tg) (S' : St) (O' : List Tg) : Prop where
  prog : ∀ (b : Nat) (w : World) (R : List SP), Own w (SfqR b reb S :: R) → Calls Tryz.prog fp (args (.pointer (some ⟨b, 0, none⟩))) w (Ret (.int .i64 er) (SfqR b reb S' :: R) w)
  ref : ∀ (P : SP) (b : Nat) (w : World) (R : List SP), Own w (RefT P b reb S.L O S.tm S.aw :: P :: R) → Calls Tryz.prog fr (args (.pointer (some ⟨b, 0, none⟩))) w (SetWT b reb S'.L O' S'.tm S'.aw P R w er)

section
variable {S : St} {O : List Tg} {N : Nat}
theorem setWT_same {b : Nat} {at_ er now aw : Int} {L : List Tg} {P : SP} {R : List SP} {w : World} (o : Own w (RefT P b at_ L O now aw :: P :: R)) {e : Ending} {w' : World} (h : IsRet (.int .i64 er) w e w') : SetWT b at_ L O now aw P R w er e w' := by
  obtain ⟨rfl, rfl⟩ := h
  exact ⟨P, PExtT.refl P, rfl, o, Calm.refl _⟩
theorem join_both (h : RelT N S O) (hN : N ≤ 1000) (reb f wt : Int) : ∃ er S' O', joinR S f wt = (er, S') ∧ RelT (N + 1) S' O' ∧ BothT 39 41 (fun p => #[p, .int .i64 f, .int .i64 wt]) reb er S O S' O' := by
  have hlen := h.ok.ok.len
  by_cases hb : f < 0 ∨ 32 ≤ f ∨ wt < 1 ∨ 16 < wt
  · have e : joinR S f wt = (1, S) := by
      have : joinE S f wt = 1 := if_pos hb
      unfold joinR; rw [this]; rfl
    refine ⟨1, S, O, e, h.next, fun b w R o => ?_, fun P b w R o => ?_⟩
    · have := sfqJoin_spec f wt o
      rw [e] at this
      exact this
    · exact (joinT_bad f wt hb).mono fun e w' he => setWT_same o he
  · cases hf : fget S.L f with
    | some t =>
      have e : joinR S f wt = (7, S) := by
        have : joinE S f wt = 7 := by unfold joinE; rw [if_neg hb, hf]; rfl
        unfold joinR; rw [this]; rfl
      refine ⟨7, S, O, e, h.next, fun b w R o => ?_, fun P b w R o => ?_⟩
      · have := sfqJoin_spec f wt o
        rw [e] at this
        exact this
      · exact (joinT_dup f wt (by omega) (by omega) hf (by omega) o).mono fun e w' he => setWT_same o he
    | none =>
      have hE : joinE S f wt = 0 := by unfold joinE; rw [if_neg hb, hf]; rfl
      have e : joinR S f wt = (0, joinS S f wt) := by unfold joinR; rw [hE]; rfl
      refine ⟨0, joinS S f wt, delT f O, e, ⟨(h.ok.join hE).1, ⟨fun g => ?_, fun t ht => ?_, fun t ht => h.r.rng t (mem_delT.1 ht).1⟩, ?_, h.aw0, ?_⟩, fun b w R o => ?_, fun P b w R o => ?_⟩
      · rw [oldM_del, h.r.old]; rfl
      · show (if t.f = f then 0 else S.old t.f) = 0
        split
        · rfl
        · rename_i hne
          rcases mem_insT.1 ht with rfl | ht
          · exact absurd rfl hne
          · exact h.r.act t ht
      · have := h.ol
        have := delT_len f O
        omega
      · show S.aw ≤ _
        have := h.aw1
        push_cast
        omega
      · have := sfqJoin_spec f wt o
        rw [e] at this
        exact this
      · have := joinT_spec f wt (by omega) (by omega) hf (by omega) (by have := h.ol; omega) h.r.rng h.ok.tm o
        rw [h.r.old] at this
        exact this
theorem leave_both (h : RelT N S O) (hN : N ≤ 1000) (reb f : Int) : ∃ er S' O', leaveR S f = (er, S') ∧ RelT (N + 1) S' O' ∧ BothT 43 47 (fun p => #[p, .int .i64 f]) reb er S O S' O' := by
  have hlen := h.ok.ok.len
  cases hf : fget S.L f with
  | none =>
    have e : leaveR S f = (6, S) := by unfold leaveR; rw [hf]
    refine ⟨6, S, O, e, h.next, fun b w R o => ?_, fun P b w R o => ?_⟩
    · have := sfqLeave_spec f o
      rw [e] at this
      exact this
    · exact (leaveT_none f (by omega) hf o).mono fun e w' he => setWT_same o he
  | some t =>
    have e : leaveR S f = (0, leaveS S f t.s) := by unfold leaveR; rw [hf]
    obtain ⟨hm, htf⟩ := fget_some hf
    have hr := h.ok.ok.rng t hm
    have hL : (leaveS S f t.s).L = delT f S.L := by
      unfold leaveS
      split
      · rename_i hz; exact hz.symm
      · rfl
    have hT : (leaveS S f t.s).tm = lvN f S.L S.tm := by
      unfold leaveS lvN
      split <;> rfl
    have hA : (leaveS S f t.s).aw = S.aw := by
      unfold leaveS
      split <;> rfl
    refine ⟨0, leaveS S f t.s, lvO f S.L O t, e, ⟨h.ok.leave hf, ⟨fun g => ?_, fun u hu => ?_, fun u hu => ?_⟩, ?_, by rw [hA]; exact h.aw0, ?_⟩, fun b w R o => ?_, fun P b w R o => ?_⟩
    · unfold leaveS lvO
      split
      · rfl
      · rw [oldM_snoc, h.r.old]
        show _ = if g = f then t.s else S.old g
        by_cases hg : g = f
        · subst hg
          rw [if_pos htf, if_pos rfl]
          have := h.r.act t hm
          rw [htf] at this
          rw [this]
          omega
        · rw [if_neg (by rw [htf]; exact fun e => hg e.symm), if_neg hg]
    · rw [hL] at hu
      obtain ⟨h1, h2⟩ := mem_delT.1 hu
      have := h.r.act u h1
      unfold leaveS
      split
      · rfl
      · show (if u.f = f then t.s else S.old u.f) = 0
        rw [if_neg h2]; exact this
    · unfold lvO at hu
      split at hu
      · simp at hu
      · rcases List.mem_append.1 hu with hu | hu
        · exact h.r.rng u hu
        · rw [List.mem_singleton] at hu
          subst hu
          omega
    · have := h.ol
      unfold lvO
      split
      · simp
      · rw [List.length_append]; simp; omega
    · rw [hA]
      have := h.aw1
      push_cast
      omega
    · have := sfqLeave_spec f o
      rw [e] at this
      exact this
    · have := leaveT_ok f h.ok.ok (by have := h.ol; omega) hf o
      rw [hL, hT, hA]
      exact this
theorem setW_both (h : RelT N S O) (reb f wt : Int) : ∃ er S' O', setWR S f wt = (er, S') ∧ RelT (N + 1) S' O' ∧ BothT 51 53 (fun p => #[p, .int .i64 f, .int .i64 wt]) reb er S O S' O' := by
  have hlen := h.ok.ok.len
  cases hf : fget S.L f with
  | none =>
    have e : setWR S f wt = (6, S) := by unfold setWR; rw [hf]
    refine ⟨6, S, O, e, h.next, fun b w R o => ?_, fun P b w R o => ?_⟩
    · have := sfqSetW_spec f wt o
      rw [e] at this
      exact this
    · have := setWT_err f wt (by omega) (.inl hf) o
      rw [if_pos hf] at this
      exact this.mono fun e w' he => setWT_same o he
  | some t =>
    obtain ⟨hm, htf⟩ := fget_some hf
    have hr := h.ok.ok.rng t hm
    by_cases hb : wt < 1 ∨ 16 < wt
    · have e : setWR S f wt = (1, S) := by unfold setWR; rw [hf]; exact if_pos hb
      refine ⟨1, S, O, e, h.next, fun b w R o => ?_, fun P b w R o => ?_⟩
      · have := sfqSetW_spec f wt o
        rw [e] at this
        exact this
      · have := setWT_err f wt (by omega) (.inr (by omega)) o
        rw [if_neg (by rw [hf]; simp)] at this
        exact this.mono fun e w' he => setWT_same o he
    · have e : setWR S f wt = (0, { S with L := setT ⟨t.f, wt, t.s⟩ S.L }) := by unfold setWR; rw [hf]; exact if_neg hb
      refine ⟨0, { S with L := setT ⟨t.f, wt, t.s⟩ S.L }, O, e, ⟨⟨h.ok.ok.set (x := ⟨t.f, wt, t.s⟩) ⟨hr.1, hr.2.1, by show 1 ≤ wt; omega, by show wt ≤ 16; omega, hr.2.2.2.2⟩, h.ok.old, h.ok.tm⟩, ⟨h.r.old, fun u hu => ?_, h.r.rng⟩, ?_, h.aw0, ?_⟩, fun b w R o => ?_, fun P b w R o => ?_⟩
      · rcases mem_setT hu with rfl | ⟨hu, -⟩
        · exact h.r.act t hm
        · exact h.r.act u hu
      · have := h.ol
        omega
      · show S.aw ≤ _
        have := h.aw1
        push_cast
        omega
      · have := sfqSetW_spec f wt o
        rw [e] at this
        exact this
      · exact setWT_ok f wt h.ok.ok (by omega) hf o
theorem finF_bad {s len wt : Int} (hl : ¬ (1 ≤ len ∧ len ≤ 4096)) : finF s len wt = (0, 1) := by
  unfold finF
  exact if_pos (.inl (by unfold badLW; omega))
theorem finF_rng {s len wt : Int} (hl : 1 ≤ len ∧ len ≤ 4096) (hw : 1 ≤ wt ∧ wt ≤ 16) (hs : 0 ≤ s ∧ s ≤ 1099511627776) (h : (finF s len wt).2 ≠ 0) : (finF s len wt).2 = 2 := by
  unfold finF at *
  split at h
  · rename_i hx
    unfold badLW at hx
    omega
  · rename_i hx
    rw [if_neg hx]
    split at h
    · rename_i hy; rw [if_pos hy]
    · exact absurd rfl h
theorem charge_both (h : RelT N S O) (hN : N ≤ 1000) (reb f len : Int) : ∃ er S' O', chargeR reb S f len = (er, S') ∧ RelT (N + 1) S' O' ∧ BothT 94 73 (fun p => #[p, .int .i64 f, .int .i64 len]) reb er S O S' O' := by
  have hlen := h.ok.ok.len
  have hawr : 0 ≤ S.aw ∧ S.aw ≤ 1152921504606846976 := ⟨h.aw0, by have := h.aw1; omega⟩
  have haw := chargeR_aw reb h.ok f len
  cases hf : fget S.L f with
  | none =>
    have e : chargeR reb S f len = (6, S) := by unfold chargeR; rw [hf]
    refine ⟨6, S, O, e, h.next, fun b w R o => sfqCharge_as e hawr o, fun P b w R o => ?_⟩
    exact (chargeT_none f len (by omega) hf o).mono fun e w' he => setWT_same o he
  | some t =>
    obtain ⟨hm, htf⟩ := fget_some hf
    have hr := h.ok.ok.rng t hm
    by_cases hl : 1 ≤ len ∧ len ≤ 4096
    · by_cases he : (finF t.s len t.w).2 = 0
      · obtain ⟨nx, hnx⟩ : ∃ nx, finF t.s len t.w = (nx, 0) := ⟨(finF t.s len t.w).1, by rw [← he]⟩
        obtain ⟨k1, k2, k3, k4⟩ := finF_ok he
        have hc : 0 ≤ nx ∧ nx ≤ 1099511627776 := by
          rw [hnx] at k1
          have k1' : nx = _ := k1
          have : 0 ≤ cst len t.w := by
            unfold cst
            exact Int.mul_nonneg (by omega) (by have := unit1_range (wt := t.w) (by omega) (by omega); omega)
          omega
        have e := chargeR_ok (reb := reb) hf hnx
        have hok := h.ok.ch hm hc
        have hne : (chS S t nx).L ≠ [] := setT_ne (List.ne_nil_of_mem hm)
        have hb := byS_rng hok hne
        have hB : chB (setT ⟨t.f, t.w, nx⟩ S.L) (max S.tm t.s) = byS (chS S t nx) := Int.min_comm _ _
        rw [e] at haw
        dsimp only at haw
        have hR : RelT (N + 1) (rebS reb (chS S t nx)) (chO reb (max S.tm t.s) (setT ⟨t.f, t.w, nx⟩ S.L) O) := by
          have hca : ∀ u ∈ (chS S t nx).L, S.old u.f = 0 := fun u hu => by
            rcases mem_setT hu with rfl | ⟨hu, -⟩
            · exact h.r.act t hm
            · exact h.r.act u hu
          refine ⟨hok.reb hne reb, ?_, ?_, by have := h.aw0; have := haw.1; omega, by have := h.aw1; have := haw.2; push_cast; omega⟩
          · unfold rebS chO
            rw [hB]
            split
            · exact ⟨h.r.old, hca, h.r.rng⟩
            · refine ⟨fun g => ?_, fun u hu => ?_, fun u hu => ?_⟩
              · rw [oldM_low g _ hb.1, h.r.old]; rfl
              · obtain ⟨v, hv, rfl⟩ := List.mem_map.1 hu
                have := hca v hv
                show max (S.old v.f - _) 0 = 0
                rw [this]
                omega
              · obtain ⟨v, hv, rfl⟩ := List.mem_map.1 hu
                have := h.r.rng v hv
                show 0 ≤ max (v.s - _) 0 ∧ max (v.s - _) 0 ≤ _
                omega
          · have := h.ol
            unfold chO
            split
            · omega
            · rw [List.length_map]; omega
        have hL : (rebS reb (chS S t nx)).L = chL reb (max S.tm t.s) (setT ⟨t.f, t.w, nx⟩ S.L) := by
          unfold rebS chL
          rw [hB]
          split
          · rfl
          · refine List.map_congr_left fun u hu => ?_
            have := hb.2.2 u hu
            show Tg.mk _ _ _ = Tg.mk _ _ _
            congr 1
            omega
        have hT : (rebS reb (chS S t nx)).tm = chN reb (max S.tm t.s) (setT ⟨t.f, t.w, nx⟩ S.L) := by
          unfold rebS chN
          rw [hB]
          split <;> rfl
        have hA : (rebS reb (chS S t nx)).aw = chA reb (max S.tm t.s) S.aw (setT ⟨t.f, t.w, nx⟩ S.L) := by
          unfold rebS chA
          rw [hB]
          split <;> rfl
        refine ⟨0, _, _, e, hR, fun b w R o => sfqCharge_as e hawr o, fun P b w R o => ?_⟩
        rw [hL, hT, hA]
        exact chargeT_ok f len nx h.ok.ok hok.ok hf hl hnx h.ok.tm hawr (by have := h.ol; omega) h.r.rng o
      · have e := chargeR_err (reb := reb) hf he
        rw [finF_rng hl ⟨hr.2.2.1, hr.2.2.2.1⟩ hr.2.2.2.2 he] at e
        refine ⟨2, S, O, e, h.next, fun b w R o => sfqCharge_as e hawr o, fun P b w R o => ?_⟩
        exact (chargeT_rng f len h.ok.ok hf hl he o).mono fun e w' he => ⟨P, PExtT.refl P, he⟩
    · have e := chargeR_err (reb := reb) (len := len) hf (by rw [finF_bad hl]; decide)
      rw [finF_bad hl] at e
      refine ⟨1, S, O, e, h.next, fun b w R o => sfqCharge_as e hawr o, fun P b w R o => ?_⟩
      exact (chargeT_len f len (by omega) hf hl o).mono fun e w' he => setWT_same o he
end
end Go.Proofs.YtjpahfkchhnpoaaGreat

/- The law CompSpread: the walk. -/
namespace Go.Proofs.YtjpahfkchhnpoaaGreat
open Go.RowKit
open SP
section
variable {W w w' : World} {R : List SP} {b : Nat} {reb tm : Int} {el tg : List (Int × Int)}

theorem compTag_still (k : Int) (o : Own w (OrderR b reb el tg tm :: R)) : Calls Tryz.prog 36 #[.pointer (some ⟨b, 0, none⟩), .int .i64 k] w (IsRet (.int .i64 (tget tg k)) w) := by
  obtain ⟨eb, tb, o1⟩ := OrderR.iff.1 o
  have c2 := o1.cell 2
  have hlk := lookIL tb (o1.up 2) k false
  simp only [Bool.false_eq_true, if_false] at hlk
  go_enter Tryz.func36, Tryz.ntmps36
  go_wp2
  go_ret
  exact ⟨rfl, rfl⟩

/-- Serve of the selected flow. -/
def ServOk (sz : Int) (i : Nat) (b : Nat) (reb : Int) (el : List (Int × Int)) (R : List SP) (w : World) (e : Ending) (w' : World) : Prop :=
  ∃ tg' tm', SInv sz (i + 1) el tg' tm' ∧ Ret (.int .i64 0) (OrderR b reb el tg' tm' :: R) w e w'
theorem serve_sel {i : Nat} {sz : Int} (h : SInv sz i el tg tm) (hi : i ≤ 100) (hne : el ≠ []) {len : Int} (h1 : 1 ≤ len) (h2 : len ≤ sz) (o : Own w (OrderR b reb el tg tm :: R)) :
    Calls Tryz.prog 95 #[.pointer (some ⟨b, 0, none⟩), .int .i64 (leastF el tg), .int .i64 len] w (ServOk sz i b reb el R w) := by
  obtain ⟨_, hu, hk, hl, hp⟩ := set_facts h.sub
  obtain ⟨_, hE, _, hi1, hi2⟩ := h.serve hi hne h1 h2
  have ht := h.tm0
  refine (serve_spec (leastF el tg) len hk (by omega) h.uniq (h.vals (by omega)) (by omega) o).mono ?_
  intro e w' hp'
  unfold ServPost at hp'
  rw [if_neg (by rw [hE]; simp)] at hp'
  split at hp'
  · exact ⟨_, _, hi1, hp'⟩
  · exact ⟨_, _, hi2, hp'⟩

theorem SInv.next {i : Nat} {sz : Int} (h : SInv sz i el tg tm) : SInv sz (i + 1) el tg tm := by
  have := h.tm0
  exact ⟨h.szr, h.sub, h.uniq, by push_cast; omega, fun f => by have := h.get f; push_cast; omega, h.low⟩
theorem Ch.more {W w : World} {b N M : Nat} {R : List SP} (o : Own w (Ch W b N :: R)) (h : N ≤ M := by omega) : Own w (Ch W b M :: R) := by
  obtain ⟨a, len, cap, zs, at_, h1, h2, h3, h4⟩ := Ch.open o
  exact Ch.shut h1 h2 (by omega) h4
theorem unit1_div {wt : Int} (h1 : 1 ≤ wt) (h2 : wt ≤ 16) : Int.tdiv 2952069120 wt = 4096 * unit1 wt := by
  have : wt = 1 ∨ wt = 2 ∨ wt = 3 ∨ wt = 4 ∨ wt = 5 ∨ wt = 6 ∨ wt = 7 ∨ wt = 8 ∨ wt = 9 ∨ wt = 10 ∨ wt = 11 ∨ wt = 12 ∨ wt = 13 ∨ wt = 14 ∨ wt = 15 ∨ wt = 16 := by omega
  rcases this with rfl | rfl | rfl | rfl | rfl | rfl | rfl | rfl | rfl | rfl | rfl | rfl | rfl | rfl | rfl | rfl <;> decide

def SpreadRel (W : World) (hb cb : Nat) (reb : Int) (v : Value) (wr : World) : Prop :=
  ∃ (i : Nat) (el tg : List (Int × Int)) (tm : Int), v = .int .i64 (i : Int) ∧ i ≤ 50 ∧ SInv 4096 i el tg tm ∧ Own wr [OrderR hb reb el tg tm, Ch W cb (1 + 6 * i), old W] ∧ Calm W wr

def SpreadRel2 (W : World) (hb cb : Nat) (reb : Int) (i : Nat) (a : Option Addr) (cap : Nat) (l : List (Int × Int)) (tg : List (Int × Int)) (tm : Int) (v : Value) (wr : World) : Prop :=
  ∃ (k : Nat), v = .int .i64 (k : Int) ∧ k ≤ l.length ∧ Own wr [OrderR hb reb l tg tm, slc 145 2 a l.length cap (flat part l), Ch W cb (1 + 6 * (i + 1)), old W] ∧ Calm W wr

end
end Go.Proofs.YtjpahfkchhnpoaaGreat

/- The reference order of chapter 22: its block, at, NewOrder, Tag. -/
namespace Go.Proofs.YtjpahfkchhnpoaaGreat
open Go.RowKit
open SP

/-- The cells of a reference order. -/
def refCells (reb : Int) (a : Option Addr) (n c : Nat) (tags : List Int) (now : Int) : List Value := [.int .i64 reb, .slice a n c] ++ (tags.map (Value.int .i64) ++ [.int .i64 now])

/-- The list of eligible flows may lie in a pool S that others read, too. -/
def RefR (S : SP) (b : Nat) (reb : Int) (l : List (Int × Int)) (tags : List Int) (now : Int) : SP := ex fun (p : Option Addr × Nat) =>
  st [pu (tags.length = 32 ∧ PartsAt S p.1 l ∧ l.length ≤ p.2), cel b 105 (refCells reb p.1 l.length p.2 tags now)]
/-- What can be read in a pool can be read in a greater one. -/
def PExt (S S' : SP) : Prop := ∀ a l, PartsAt S a l → PartsAt S' a l

section
variable {S : SP} {W w w' : World} {R : List SP} {b : Nat} {reb now : Int} {l : List (Int × Int)} {tags : List Int}

theorem RefR.iff : Own w (RefR S b reb l tags now :: R) ↔ ∃ a c, tags.length = 32 ∧ (PartsAt S a l ∧ l.length ≤ c) ∧ Own w (cel b 105 (refCells reb a l.length c tags now) :: R) := by
  constructor
  · intro o
    obtain ⟨⟨a, c⟩, h⟩ := Own.ex.1 o
    obtain ⟨⟨h1, h2⟩, h3⟩ := Own.pu.1 (Own.st.1 h)
    exact ⟨a, c, h1, h2, h3⟩
  · rintro ⟨a, c, h1, h2, h3⟩
    exact Own.ex.2 ⟨(a, c), Own.st.2 (Own.pu.2 ⟨⟨h1, h2⟩, h3⟩)⟩
theorem RefR.mono {S' : SP} (h : PExt S S') (o : Own w (RefR S b reb l tags now :: R)) : Own w (RefR S' b reb l tags now :: R) := by
  obtain ⟨a, c, h1, h2, h3⟩ := RefR.iff.1 o
  exact RefR.iff.2 ⟨a, c, h1, ⟨h _ _ h2.1, h2.2⟩, h3⟩
theorem PExt.refl (S : SP) : PExt S S := fun _ _ h => h
theorem PExt.trans {A B C : SP} (h : PExt A B) (k : PExt B C) : PExt A C := fun _ _ x => k _ _ (h _ _ x)
theorem PExt.add (A S : SP) : PExt S (st [A, S]) := fun _ _ h w R o i y hy => h w _ ((Own.st.1 o).up 1) i y hy
theorem PartsAt.new {S A : SP} {a : Option Addr} (h : PartsAt A a l) : PartsAt (st [A, S]) a l := fun w R o i y hy => h w _ (Own.st.1 o) i y hy

theorem refCells_tag {a : Option Addr} {n c i : Nat} {t : Int} (h : tags[i]? = some t) : (refCells reb a n c tags now)[2 + i]? = some (.int .i64 t) := by
  unfold refCells
  rw [List.getElem?_append_right (by simp)]
  simp only [List.length_cons, List.length_nil]
  rw [show 2 + i - (0 + 1 + 1) = i from by omega, List.getElem?_append_left (by rw [List.length_map]; exact (List.getElem?_eq_some_iff.1 h).1), List.getElem?_map, h]
  rfl
theorem refCells_now {a : Option Addr} {n c : Nat} (h : tags.length = 32) : (refCells reb a n c tags now)[34]? = some (.int .i64 now) := by
  unfold refCells
  rw [List.getElem?_append_right (by simp), List.getElem?_append_right (by simp; omega)]
  simp [h]
theorem refCells_setTag {a : Option Addr} {n c i : Nat} {v : Int} (h : i < tags.length) : (refCells reb a n c tags now).set (2 + i) (.int .i64 v) = refCells reb a n c (tags.set i v) now := by
  unfold refCells
  rw [List.set_append_right _ _ (by simp)]
  simp only [List.length_cons, List.length_nil]
  rw [show 2 + i - (0 + 1 + 1) = i from by omega, List.set_append_left _ _ (by rw [List.length_map]; exact h), List.map_set]
theorem refCells_setNow {a : Option Addr} {n c : Nat} {v : Int} (h : tags.length = 32) : (refCells reb a n c tags now).set 34 (.int .i64 v) = refCells reb a n c tags v := by
  unfold refCells
  rw [List.set_append_right _ _ (by simp), List.set_append_right _ _ (by simp; omega)]
  simp [h]
theorem refCells_setIn {a a' : Option Addr} {n c n' c' : Nat} : (refCells reb a n c tags now).set 1 (.slice a' n' c') = refCells reb a' n' c' tags now := rfl

/-- Where a flow stands in a list, or -1. -/
def atF (f : Int) : Nat → List (Int × Int) → Int
  | _, [] => -1
  | i, p :: l => if p.1 = f then (i : Int) else atF f (i + 1) l

def AtRel (l : List (Int × Int)) (f T : Int) (w : World) (v : Value) (wr : World) : Prop :=
  ∃ i : Nat, v = .int .i64 (i : Int) ∧ i ≤ l.length ∧ atF f i (l.drop i) = T ∧ wr = w

set_option maxHeartbeats 800000 in
theorem at_spec {a : Option Addr} {n c : Nat} (f : Int) (hS : PartsAt S a l) (hn : n = l.length) (hn2 : n ≤ 1000) (o : Own w (S :: R)) :
    Calls Tryz.prog 84 #[.slice a n c, .int .i64 f] w (IsRet (.int .i64 (atF f 0 l)) w) := by
  have hT : AtRel l f (atF f 0 l) w (.int .i64 0) w := ⟨0, rfl, by omega, rfl, rfl⟩
  generalize atF f 0 l = T at *
  have Hn := Lib.hid hn
  clear hn
  go_enter Tryz.func84, Tryz.ntmps84
  go_wp2
  go_loopw [5] (fun v wr => AtRel l f T w v wr) (fun v _ => n - (intOf v).toNat)
  case atStart => exact hT
  case round =>
    clear hT
    obtain ⟨i, rfl, hi, hE, rfl⟩ := hrel
    have HT := Lib.hid hE
    clear hE
    by_cases hlt : i < n
    · obtain ⟨p, hp⟩ : ∃ p, l[i]? = some p := ⟨_, List.getElem?_eq_getElem (by have := Hn.out; omega)⟩
      obtain ⟨g, so, rfl, d0, d1⟩ := hS _ _ o i _ hp
      have HD := Lib.hid (drop_cons hp)
      clear hp
      obtain ⟨x, y⟩ := p
      dsimp only at d0 d1
      by_cases hx : x = f
      · subst hx
        go_wp2
        go_ret
        refine ⟨?_, rfl⟩
        rw [← HT.out, HD.out, atF, if_pos rfl]; rfl
      · have hxb : (x == f) = false := by simpa using hx
        go_wp2
        go_roundw
        case rel => exact ⟨i + 1, by go_num, by have := Hn.out; omega, by rw [← HT.out, HD.out, atF, if_neg hx], rfl⟩
        case measure => simp [intOf]; omega
    · go_wp2
      go_ret
      refine ⟨?_, rfl⟩
      rw [← HT.out, List.drop_eq_nil_of_le (by have := Hn.out; omega)]; rfl

set_option maxHeartbeats 800000 in
set_option maxRecDepth 100000 in
theorem refNew_spec (r : Int) (h1 : 1 ≤ r) (h2 : r ≤ 1099511627776) (o : Own w R) :
    Calls Tryz.prog 22 #[.int .i64 r] w fun e w' => ∃ b, Ret (.tuple #[.pointer (some ⟨b, 0, none⟩), .int .i64 0]) (RefR S b r [] (List.replicate 32 0) 0 :: R) w e w' := by
  go_enter Tryz.func22, Tryz.ntmps22
  go_wp2
  go_ret2
  have o1 := o.alloc (.cells (refCells r none 0 0 (List.replicate 32 0) 0).toArray 105)
  exact ⟨_, rfl, RefR.iff.2 ⟨none, 0, by decide, ⟨fun _ _ _ _ _ h => by simp at h, Nat.le_refl _⟩, o1⟩, ⟨rfl, rfl, rfl⟩⟩
theorem goodWeight_spec (wt : Int) (w : World) : Calls Tryz.prog 78 #[.int .i64 wt] w (IsRet (.bool (decide (1 ≤ wt ∧ wt ≤ 16))) w) := by
  by_cases h1 : wt < 1
  · have : decide (1 ≤ wt ∧ wt ≤ 16) = false := by simp; omega
    rw [this]
    go_enter Tryz.func78, Tryz.ntmps78
    go_wp2
    go_ret
    exact ⟨rfl, rfl⟩
  · by_cases h2 : wt ≤ 16
    · have : decide (1 ≤ wt ∧ wt ≤ 16) = true := by simp; omega
      rw [this]
      go_enter Tryz.func78, Tryz.ntmps78
      go_wp2
      go_ret
      exact ⟨rfl, rfl⟩
    · have : decide (1 ≤ wt ∧ wt ≤ 16) = false := by simp; omega
      rw [this]
      go_enter Tryz.func78, Tryz.ntmps78
      go_wp2
      go_ret
      exact ⟨rfl, rfl⟩

set_option maxHeartbeats 800000 in
theorem refCost_spec (len wt : Int) (w : World) : Calls Tryz.prog 105 #[.int .i64 len, .int .i64 wt] w (IsRet (pairV (costF len wt)) w) := by
  have hw := goodWeight_spec wt w
  by_cases h : badLW len wt
  · have e : costF len wt = (0, 1) := if_pos h
    rw [e]; clear e
    by_cases h1 : len < 1
    · go_enter Tryz.func105, Tryz.ntmps105
      go_wp2
      go_ret2
      exact ⟨rfl, rfl⟩
    · by_cases h2 : 4096 < len
      · go_enter Tryz.func105, Tryz.ntmps105
        go_wp2
        go_ret2
        exact ⟨rfl, rfl⟩
      · have hd : decide (1 ≤ wt ∧ wt ≤ 16) = false := by unfold badLW at h; simp; omega
        rw [hd] at hw
        clear h hd
        go_enter Tryz.func105, Tryz.ntmps105
        go_wp2_with fail
        refine hw.mono ?_
        rintro e1 w1 ⟨rfl, rfl⟩
        go_wp2
        go_ret2
        exact ⟨rfl, rfl⟩
  · have e : costF len wt = (cst len wt, 0) := if_neg h
    rw [e]; clear e
    have h' : 1 ≤ len ∧ len ≤ 4096 ∧ 1 ≤ wt ∧ wt ≤ 16 := by unfold badLW at h; omega
    have hd : decide (1 ≤ wt ∧ wt ≤ 16) = true := by simp; omega
    rw [hd] at hw
    clear h hd
    obtain ⟨h1, h2, h3, h4⟩ := h'
    obtain ⟨c1, c2⟩ := cst_range h3 h4 h1 h2
    obtain ⟨u1, u2⟩ := unit1_range h3 h4
    have e1 : Int.tdiv 720720 wt = unit1 wt := rfl
    have e2 : len * unit1 wt = cst len wt := rfl
    generalize unit1 wt = u at *
    generalize cst len wt = z at *
    have hz : ¬ wt = 0 := by omega
    go_enter Tryz.func105, Tryz.ntmps105
    go_wp2_with fail
    refine hw.mono ?_
    rintro e1 w1 ⟨rfl, rfl⟩
    go_wp2
    go_ret2
    exact ⟨rfl, rfl⟩


/-- The reference's first flow with the least tag. -/
def selL (tags : List Int) : List (Int × Int) → Int → Int
  | [], k => k
  | p :: l, k => selL tags l (if tags.getD p.1.toNat 0 < tags.getD k.toNat 0 then p.1 else k)
def refSel (tags : List Int) : List (Int × Int) → Value
  | [] => .tuple #[.int .i64 0, .int .i64 5]
  | p :: l => .tuple #[.int .i64 (selL tags l p.1), .int .i64 0]

def SelRel (l : List (Int × Int)) (tags : List Int) (T : Int) (w : World) (v4 v5 : Value) (wr : World) : Prop :=
  ∃ (i : Nat) (k : Nat), v5 = .int .i64 (i : Int) ∧ v4 = .int .i64 (k : Int) ∧ k < 32 ∧ 1 ≤ i ∧ i ≤ l.length ∧ selL tags (l.drop i) k = T ∧ ∃ m, wr = w.drewN m

set_option maxHeartbeats 1600000 in
set_option maxRecDepth 100000 in
theorem refSelect_spec (hid : ∀ p ∈ l, 0 ≤ p.1 ∧ p.1 < 32) (hn2 : l.length ≤ 1000) (o : Own w (RefR S b reb l tags now :: S :: R)) :
    Calls Tryz.prog 100 #[.pointer (some ⟨b, 0, none⟩)] w (fun e w' => e = .returned (refSel tags l) ∧ ∃ m, w' = w.drewN m) := by
  obtain ⟨a, c, hl, hP, o1⟩ := RefR.iff.1 o
  have c1 := o1.cell 1
  cases l with
  | nil =>
    go_enter Tryz.func100, Tryz.ntmps100
    go_wp2
    go_ret2
    exact ⟨rfl, 0, rfl⟩
  | cons p l' =>
    obtain ⟨x, y⟩ := p
    have hx := hid (x, y) (by simp)
    dsimp only at hx
    obtain ⟨x0, rfl⟩ : ∃ x0 : Nat, x = (x0 : Int) := ⟨x.toNat, by omega⟩
    obtain ⟨g, so, rfl, d0, _⟩ := hP.1 _ _ (o1.up 1) 0 ((x0 : Int), y) rfl
    simp only [Nat.zero_mul, Nat.add_zero] at d0
    have hT : SelRel (((x0 : Int), y) :: l') tags (selL tags l' x0) w (.int .i64 x0) (.int .i64 1) w := ⟨1, x0, rfl, rfl, by omega, by omega, by simp, rfl, 0, rfl⟩
    have hres : refSel tags (((x0 : Int), y) :: l') = .tuple #[.int .i64 (selL tags l' x0), .int .i64 0] := rfl
    rw [hres]
    clear hres
    generalize selL tags l' x0 = T at *
    have hpos : 1 ≤ (((x0 : Int), y) :: l').length := by simp
    generalize (((x0 : Int), y) :: l') = L at *
    obtain ⟨n, hnl⟩ : ∃ n, L.length = n := ⟨_, rfl⟩
    rw [hnl] at c1 hpos hn2
    have Hn := Lib.hid hnl
    have hn0 : ((n : Int) == 0) = false := by simp; omega
    clear hnl
    go_enter Tryz.func100, Tryz.ntmps100
    go_wp2
    go_loopw [4, 5] (fun v4 v5 wr => SelRel L tags T w v4 v5 wr) (fun _ v5 _ => n - (intOf v5).toNat)
    case atStart => exact hT
    case round =>
      clear hT
      obtain ⟨i, k, rfl, rfl, hk, hi1, hi2, hE, m, rfl⟩ := hrel
      have HT := Lib.hid hE
      clear hE
      by_cases hlt : i < n
      · obtain ⟨q, hq⟩ : ∃ q, L[i]? = some q := ⟨_, List.getElem?_eq_getElem (by have := Hn.out; omega)⟩
        obtain ⟨g', so', hgg, e0, _⟩ := hP.1 _ _ (o1.up 1) i q hq
        cases hgg
        have hqr := hid q (List.mem_of_getElem? hq)
        have HD := Lib.hid (drop_cons hq)
        clear hq
        obtain ⟨z, u⟩ := q
        dsimp only at e0 hqr
        obtain ⟨z0, rfl⟩ : ∃ z0 : Nat, z = (z0 : Int) := ⟨z.toNat, by omega⟩
        obtain ⟨t1, ht1⟩ : ∃ t, tags[z0]? = some t := ⟨_, List.getElem?_eq_getElem (by omega)⟩
        obtain ⟨t2, ht2⟩ : ∃ t, tags[k]? = some t := ⟨_, List.getElem?_eq_getElem (by omega)⟩
        have f1 := o1.cell (2 + z0) (refCells_tag ht1)
        have f2 := o1.cell (2 + k) (refCells_tag ht2)
        have hg1 : Hid (tags.getD ((z0 : Int)).toNat 0 = t1) := Lib.hid (by rw [Int.toNat_natCast, List.getD_eq_getElem?_getD, ht1]; rfl)
        have hg2 : Hid (tags.getD ((k : Int)).toNat 0 = t2) := Lib.hid (by rw [Int.toNat_natCast, List.getD_eq_getElem?_getD, ht2]; rfl)
        clear ht1 ht2
        by_cases hc : t1 < t2
        · have hd : decide (t1 < t2) = true := by simpa using hc
          go_wp2
          go_quiet (fail)
          go_wp2
          go_roundw
          case rel => exact ⟨i + 1, z0, by go_num, rfl, by omega, by omega, by have := Hn.out; omega, by rw [← HT.out, HD.out, selL]; dsimp only; rw [hg1.out, hg2.out, if_pos hc], _, rfl⟩
          case measure => simp [intOf]; omega
        · have hd : decide (t1 < t2) = false := by simpa using hc
          go_wp2
          go_quiet (fail)
          go_wp2
          go_roundw
          case rel => exact ⟨i + 1, k, by go_num, rfl, hk, by omega, by have := Hn.out; omega, by rw [← HT.out, HD.out, selL]; dsimp only; rw [hg1.out, hg2.out, if_neg (by omega)], _, rfl⟩
          case measure => simp [intOf]; omega
      · go_wp2
        go_ret2
        have hkT : (k : Int) = T := by rw [← HT.out, List.drop_eq_nil_of_le (by have := Hn.out; omega)]; rfl
        refine ⟨?_, m, rfl⟩
        rw [← hkT]; rfl
end
end Go.Proofs.YtjpahfkchhnpoaaGreat

/- The reference order of chapter 22: Serve. -/
namespace Go.Proofs.YtjpahfkchhnpoaaGreat
open Go.RowKit
open SP
section
variable {S : SP} {W w w' : World} {R : List SP} {b : Nat} {reb now : Int} {l : List (Int × Int)} {tags : List Int}

def rlow (by_ : Int) (k : Nat) (tags : List Int) : List Int := (tags.take k).map (fun t => max (t - by_) 0) ++ tags.drop k
theorem rlow_len (by_ : Int) (k : Nat) (tags : List Int) : (rlow by_ k tags).length = tags.length := by
  unfold rlow; rw [List.length_append, List.length_map, List.length_take, List.length_drop]; omega
theorem rlow_get {by_ : Int} {k : Nat} {tags : List Int} {t : Int} (h : tags[k]? = some t) : (rlow by_ k tags)[k]? = some t := by
  have hk := (List.getElem?_eq_some_iff.1 h).1
  unfold rlow
  rw [List.getElem?_append_right (by rw [List.length_map, List.length_take]; omega), List.length_map, List.length_take, List.getElem?_drop]
  rw [show k + (k - min k tags.length) = k from by omega]; exact h
theorem rlow_set {by_ : Int} {k : Nat} {tags : List Int} {t : Int} (h : tags[k]? = some t) : (rlow by_ k tags).set k (max (t - by_) 0) = rlow by_ (k + 1) tags := by
  have hk := (List.getElem?_eq_some_iff.1 h).1
  unfold rlow
  rw [List.set_append_right _ _ (by rw [List.length_map, List.length_take]; omega), List.length_map, List.length_take]
  rw [show k - min k tags.length = 0 from by omega]
  rw [List.take_add_one, h, List.map_append]
  rw [List.drop_eq_getElem_cons hk, List.set_cons_zero]
  simp
theorem rlow_all (by_ : Int) (tags : List Int) : rlow by_ tags.length tags = tags.map (fun t => max (t - by_) 0) := by unfold rlow; simp

theorem atF_some {f : Int} : ∀ (l : List (Int × Int)) (j : Nat), (∀ p ∈ l, p.1 ≠ f) ∧ atF f j l = -1 ∨ ∃ i wt, l[i]? = some (f, wt) ∧ atF f j l = ((j + i : Nat) : Int) ∧ mget l f = some wt
  | [], j => .inl ⟨by simp, rfl⟩
  | p :: l, j => by
    obtain ⟨x, y⟩ := p
    by_cases h : x = f
    · subst h
      exact .inr ⟨0, y, rfl, by simp [atF], by simp [mget]⟩
    · rcases atF_some (f := f) l (j + 1) with ⟨h1, h2⟩ | ⟨i, wt, h1, h2, h3⟩
      · left
        refine ⟨?_, by simp [atF, h, h2]⟩
        intro p hp
        rcases List.mem_cons.1 hp with rfl | hp
        · exact h
        · exact h1 p hp
      · right
        refine ⟨i + 1, wt, by simpa using h1, ?_, ?_⟩
        · simp only [atF, if_neg h, h2]; congr 1; omega
        · unfold mget; rw [if_neg (Ne.symm h)]; exact h3

set_option maxHeartbeats 1600000 in
set_option maxRecDepth 100000 in
theorem refServe_none (f len : Int) (hn2 : l.length ≤ 1000) (hf : atF f 0 l = -1) (o : Own w (RefR S b reb l tags now :: S :: R)) :
    Calls Tryz.prog 75 #[.pointer (some ⟨b, 0, none⟩), .int .i64 f, .int .i64 len] w (Ret (.int .i64 6) (RefR S b reb l tags now :: S :: R) w) := by
  obtain ⟨a, c, hl, hP, o1⟩ := RefR.iff.1 o
  have c1 := o1.cell 1
  have hat := at_spec (c := c) f hP.1 rfl hn2 (o1.up 1)
  rw [hf] at hat
  go_enter Tryz.func75, Tryz.ntmps75
  go_wp2_with fail
  refine hat.mono ?_
  rintro e1 w1 ⟨rfl, rfl⟩
  go_wp2
  go_ret
  exact ⟨rfl, o, Calm.refl w⟩

set_option maxHeartbeats 1600000 in
set_option maxRecDepth 100000 in
theorem refServe_bad (f len : Int) (hn2 : l.length ≤ 1000) {i : Nat} {wt : Int} (hi : l[i]? = some (f, wt)) (hf : atF f 0 l = (i : Int)) (hb : badLW len wt) (o : Own w (RefR S b reb l tags now :: S :: R)) :
    Calls Tryz.prog 75 #[.pointer (some ⟨b, 0, none⟩), .int .i64 f, .int .i64 len] w (Ret (.int .i64 1) (RefR S b reb l tags now :: S :: R) w) := by
  obtain ⟨a, c, hl, hP, o1⟩ := RefR.iff.1 o
  have c1 := o1.cell 1
  have hil := (List.getElem?_eq_some_iff.1 hi).1
  have hat := at_spec (c := c) f hP.1 rfl hn2 (o1.up 1)
  rw [hf] at hat
  obtain ⟨g, so, rfl, d0, d1⟩ := hP.1 _ _ (o1.up 1) i _ hi
  dsimp only at d0 d1
  have hc := refCost_spec len wt w
  have e : costF len wt = (0, 1) := if_pos hb
  rw [e] at hc
  clear e hb hf
  unfold pairV at hc
  dsimp only at hc
  clear hi
  go_enter Tryz.func75, Tryz.ntmps75
  go_wp2_with fail
  refine hat.mono ?_
  rintro e1 w1 ⟨rfl, rfl⟩
  go_wp2_with fail
  refine hc.mono ?_
  rintro e1 w1 ⟨rfl, rfl⟩
  go_wp2
  go_ret
  exact ⟨rfl, o, Calm.refl w⟩

set_option maxHeartbeats 1600000 in
set_option maxRecDepth 100000 in
theorem refServe_range (f : Nat) (len : Int) (hn2 : l.length ≤ 1000) {i : Nat} {wt t : Int} (hi : l[i]? = some ((f : Int), wt)) (hf : atF f 0 l = (i : Int)) (hb : ¬ badLW len wt) (ht : tags[f]? = some t) (htr : 0 ≤ t ∧ t ≤ 1099511627776)
    (hr : 1099511627776 < t + cst len wt) (o : Own w (RefR S b reb l tags now :: S :: R)) :
    Calls Tryz.prog 75 #[.pointer (some ⟨b, 0, none⟩), .int .i64 (f : Int), .int .i64 len] w (Ret (.int .i64 2) (RefR S b reb l tags now :: S :: R) w) := by
  obtain ⟨a, c, hl, hP, o1⟩ := RefR.iff.1 o
  have c1 := o1.cell 1
  have hil := (List.getElem?_eq_some_iff.1 hi).1
  have hfl := (List.getElem?_eq_some_iff.1 ht).1
  have f1 := o1.cell (2 + f) (refCells_tag ht)
  have hat := at_spec (c := c) f hP.1 rfl hn2 (o1.up 1)
  rw [hf] at hat
  obtain ⟨g, so, rfl, d0, d1⟩ := hP.1 _ _ (o1.up 1) i _ hi
  dsimp only at d0 d1
  have hc := refCost_spec len wt w
  have e : costF len wt = (cst len wt, 0) := if_neg hb
  rw [e] at hc
  have hcr : 45045 ≤ cst len wt ∧ cst len wt ≤ 2952069120 := by unfold badLW at hb; exact cst_range (by omega) (by omega) (by omega) (by omega)
  generalize cst len wt = cs at *
  clear e hb hf ht
  unfold pairV at hc
  dsimp only at hc
  clear hi
  go_enter Tryz.func75, Tryz.ntmps75
  go_wp2_with fail
  refine hat.mono ?_
  rintro e1 w1 ⟨rfl, rfl⟩
  go_wp2_with fail
  refine hc.mono ?_
  rintro e1 w1 ⟨rfl, rfl⟩
  go_wp2
  go_ret
  exact ⟨rfl, o, Calm.refl w⟩

def RefServ2 (S : SP) (b : Nat) (reb : Int) (l : List (Int × Int)) (tags1 : List Int) (now1 by_ : Int) (R : List SP) (w : World) (e : Ending) (w' : World) : Prop :=
  if by_ < reb then Ret (.int .i64 0) (RefR S b reb l tags1 now1 :: S :: R) w e w' else Ret (.int .i64 0) (RefR S b reb l (tags1.map fun t => max (t - by_) 0) (now1 - by_) :: S :: R) w e w'

def RLowRel (S : SP) (b : Nat) (reb : Int) (a : Option Addr) (c : Nat) (l : List (Int × Int)) (tags1 : List Int) (now1 by_ : Int) (R : List SP) (w : World) (v : Value) (wr : World) : Prop :=
  ∃ k : Nat, v = .int .i64 (k : Int) ∧ k ≤ 32 ∧ Own wr (cel b 105 (refCells reb a l.length c (rlow by_ k tags1) now1) :: S :: R) ∧ Calm w wr

set_option maxHeartbeats 3200000 in
set_option maxRecDepth 100000 in
theorem refServe_ok (f : Nat) (len : Int) (hn2 : l.length ≤ 1000) (hid : ∀ p ∈ l, 0 ≤ p.1 ∧ p.1 < 32) {i : Nat} {wt t : Int} (hi : l[i]? = some ((f : Int), wt)) (hf : atF f 0 l = (i : Int)) (hb : ¬ badLW len wt) (ht : tags[f]? = some t) (htr : 0 ≤ t ∧ t ≤ 1099511627776)
    (hvals : ∀ x ∈ tags, 0 ≤ x ∧ x ≤ 1099511627776) (hnow : 0 ≤ now ∧ now ≤ 1099511627776)
    (hr : ¬ 1099511627776 < t + cst len wt) {k : Nat} (hsel : refSel (tags.set f (t + cst len wt)) l = .tuple #[.int .i64 (k : Int), .int .i64 0]) {tk : Int} (htk : (tags.set f (t + cst len wt))[k]? = some tk)
    (o : Own w (RefR S b reb l tags now :: S :: R)) :
    Calls Tryz.prog 75 #[.pointer (some ⟨b, 0, none⟩), .int .i64 (f : Int), .int .i64 len] w (RefServ2 S b reb l (tags.set f (t + cst len wt)) (max now t) (min tk (max now t)) R w) := by
  obtain ⟨a, c, hl, hP, o1⟩ := RefR.iff.1 o
  have c1 := o1.cell 1
  have c34 := o1.cell 34 (refCells_now hl)
  have hfz := o1.frozen
  have hlt := o1.celLt
  have hil := (List.getElem?_eq_some_iff.1 hi).1
  have hfl := (List.getElem?_eq_some_iff.1 ht).1
  have f1 := o1.cell (2 + f) (refCells_tag ht)
  have hat := at_spec (c := c) f hP.1 rfl hn2 (o1.up 1)
  rw [hf] at hat
  obtain ⟨g, so, rfl, d0, d1⟩ := hP.1 _ _ (o1.up 1) i _ hi
  dsimp only at d0 d1
  have hc := refCost_spec len wt w
  have e : costF len wt = (cst len wt, 0) := if_neg hb
  rw [e] at hc
  have hcr : 45045 ≤ cst len wt ∧ cst len wt ≤ 2952069120 := by unfold badLW at hb; exact cst_range (by omega) (by omega) (by omega) (by omega)
  generalize cst len wt = cs at *
  clear e hb hf
  unfold pairV at hc
  dsimp only at hc
  clear hi
  obtain ⟨T1, hT1⟩ : ∃ T1, t + cs = T1 := ⟨_, rfl⟩
  obtain ⟨N1, hN1⟩ : ∃ N1, max now t = N1 := ⟨_, rfl⟩
  rw [hT1] at hsel htk hr ⊢
  rw [hN1]
  have o2 := o1.setCell 34 (.int .i64 N1)
  rw [refCells_setNow hl] at o2
  have f2 := o2.cell (2 + f) (refCells_tag ht)
  have o3 := o2.setCell (2 + f) (.int .i64 T1)
  rw [refCells_setTag hfl] at o3
  have hl1 : (tags.set f T1).length = 32 := by rw [List.length_set]; exact hl
  have hv1 : ∀ x ∈ tags.set f T1, 0 ≤ x ∧ x ≤ 1099511627776 := fun x hx => by
    rcases List.mem_or_eq_of_mem_set hx with h | h
    · exact hvals x h
    · omega
  generalize tags.set f T1 = tags1 at *
  have oR := RefR.iff.2 ⟨_, _, hl1, hP, o3⟩
  clear ht hvals
  have hf32 : f < 32 := by omega
  have hf32' : (f : Int) < 32 := by omega
  have hf0 : 0 ≤ (f : Int) := by omega
  have hf0' : ¬ (f : Int) < 0 := by omega
  go_enter Tryz.func75, Tryz.ntmps75
  go_wp2_with fail
  refine hat.mono ?_
  rintro e1 w1 ⟨rfl, rfl⟩
  go_wp2_with fail
  refine hc.mono ?_
  rintro e1 w1 ⟨rfl, rfl⟩
  go_wp2
  refine wp_region_tail 12 (by kernel_rfl) (by kernel_rfl) ?_
  simp only [List.take_succ_cons, List.take_zero, List.drop_succ_cons, List.drop_zero]
  repeat still_step
  refine wpStill_nil ?_
  have hwr : IntKind.i64.wrap T1 = T1 := by rw [IntKind.wrap_i64]; omega
  go_wp2
  refine wp_region_tail 10 (by kernel_rfl) (by kernel_rfl) ?_
  simp only [List.take_succ_cons, List.take_zero, List.drop_succ_cons, List.drop_zero]
  repeat still_step
  refine wpStill_nil ?_
  go_wp2_with fail
  refine (refSelect_spec hid hn2 oR.drew.drew).mono ?_
  rintro e4 w4 ⟨rfl, m, hw⟩
  have o4 : Own w4 (cel b 105 (refCells reb (some ⟨g, so, none⟩) l.length c tags1 N1) :: S :: R) := by rw [hw]; exact o3.drew.drew.drewN m
  have k4 : Calm w w4 := by rw [hw]; exact ⟨rfl, rfl, rfl⟩
  clear hw o3 o2 oR o1 f1 f2 c1 c34 hfz hlt d0 d1
  rw [hsel]
  have hk32 : k < 32 := by have := (List.getElem?_eq_some_iff.1 htk).1; omega
  have hkI : (k : Int) < 32 := by omega
  have hkI0 : 0 ≤ (k : Int) := by omega
  have hkI1 : ¬ (k : Int) < 0 := by omega
  have htkr := hv1 _ (List.mem_of_getElem? htk)
  have g0 := o4.cell 0
  have g34 := o4.cell 34 (refCells_now hl1)
  have gk := o4.cell (2 + k) (refCells_tag htk)
  have hN : 0 ≤ N1 ∧ N1 ≤ 1099511627776 := by omega
  obtain ⟨by_, hby⟩ : ∃ y, min tk N1 = y := ⟨_, rfl⟩
  rw [hby]
  have hbr : 0 ≤ by_ ∧ by_ ≤ 1099511627776 := by omega
  clear hN1 hT1
  by_cases hcmp : by_ < reb
  · go_wp2
    go_quiet (fail)
    go_wp2
    go_ret
    rw [RefServ2, hby, if_pos hcmp]
    exact ⟨rfl, RefR.iff.2 ⟨_, _, hl1, hP, o4.drewN _⟩, k4.dn _⟩
  · go_wp2
    go_quiet (fail)
    have hL : RLowRel S b reb (some ⟨g, so, none⟩) c l tags1 N1 by_ R w (.int .i64 0) (w4.drewN nq) := ⟨0, rfl, by omega, o4.drewN _, k4.dn _⟩
    go_wp2
    have HBY := Lib.hid hby
    clear hby g0 g34 gk
    go_loopw [13] (fun v wr => RLowRel S b reb (some ⟨g, so, none⟩) c l tags1 N1 by_ R w v wr) (fun v _ => 32 - (intOf v).toNat)
    case atStart => exact hL
    case round =>
      clear hL o4 k4
      obtain ⟨j, rfl, hj, oJ, kJ⟩ := hrel
      by_cases hlt : j < 32
      · obtain ⟨y, hy⟩ : ∃ y, tags1[j]? = some y := ⟨_, List.getElem?_eq_getElem (by omega)⟩
        have hyr := hv1 _ (List.mem_of_getElem? hy)
        have gy := oJ.cell (2 + j) (refCells_tag (rlow_get hy))
        have hfz := oJ.frozen
        have hbl := oJ.celLt
        have hjI : (j : Int) < 32 := by omega
        have hjI0 : 0 ≤ (j : Int) := by omega
        have hjI1 : ¬ (j : Int) < 0 := by omega
        have hwr2 : IntKind.i64.wrap (y - by_) = y - by_ := by rw [IntKind.wrap_i64]; omega
        have oN := oJ.setCell (2 + j) (.int .i64 (max (y - by_) 0))
        rw [refCells_setTag (by rw [rlow_len]; omega), rlow_set hy] at oN
        clear hy
        go_wp2
        refine wp_region_tail 13 (by kernel_rfl) (by kernel_rfl) ?_
        simp only [List.take_succ_cons, List.take_zero, List.drop_succ_cons, List.drop_zero]
        repeat still_step
        refine wpStill_nil ?_
        go_wp2
        go_roundw
        case rel => exact ⟨j + 1, by go_num, by omega, oN.drew, ⟨kJ.os, kJ.tape, kJ.output⟩⟩
        case measure => simp [intOf]; omega
      · have hj32 : j = 32 := by omega
        subst hj32
        have hlr : (rlow by_ 32 tags1).length = 32 := by rw [rlow_len]; exact hl1
        have g34 := oJ.cell 34 (refCells_now hlr)
        have hfz := oJ.frozen
        have hbl := oJ.celLt
        have oN := oJ.setCell 34 (.int .i64 (N1 - by_))
        rw [refCells_setNow hlr] at oN
        have e1 : rlow by_ 32 tags1 = tags1.map (fun t => max (t - by_) 0) := by rw [← rlow_all, hl1]
        rw [e1] at oN hlr
        go_wp2
        go_ret
        rw [RefServ2, HBY.out, if_neg (by omega)]
        exact ⟨rfl, RefR.iff.2 ⟨_, _, hlr, hP, oN⟩, ⟨kJ.os, kJ.tape, kJ.output⟩⟩
end
end Go.Proofs.YtjpahfkchhnpoaaGreat

/- The reference order of chapter 22: Eligible, Forget. -/
namespace Go.Proofs.YtjpahfkchhnpoaaGreat
open Go.RowKit
open SP
section
variable {S : SP} {W w w' : World} {R : List SP} {b : Nat} {reb now : Int} {l : List (Int × Int)} {tags : List Int}

def tagsE (el : List (Int × Int)) (now : Int) : List (Int × Int) → List Int → List Int
  | [], tags => tags
  | p :: L, tags => tagsE el now L (if atF p.1 0 el < 0 then tags.set p.1.toNat (max (tags.getD p.1.toNat 0) now) else tags)
theorem tagsE_len (el : List (Int × Int)) (now : Int) : ∀ (L : List (Int × Int)) (tags : List Int), (tagsE el now L tags).length = tags.length
  | [], _ => rfl
  | p :: L, tags => by unfold tagsE; rw [tagsE_len]; split <;> simp
def RefOk (b : Nat) (reb now : Int) (L : List (Int × Int)) (tags : List Int) (A S : SP) (R : List SP) (w : World) (e : Ending) (w' : World) : Prop :=
  ∃ S', PExt S S' ∧ Ret (.int .i64 0) (A :: RefR S' b reb L tags now :: S' :: R) w e w'
def RefElig (b : Nat) (reb now : Int) (l : List (Int × Int)) (tags : List Int) (L : List (Int × Int)) (A S : SP) (R : List SP) (w : World) (e : Ending) (w' : World) : Prop :=
  if eligBad (-1) L = true then Ret (.int .i64 1) (A :: RefR S b reb l tags now :: S :: R) w e w' else RefOk b reb now L (tagsE l now L tags) A S R w e w'

/-- What can be read in a list of parts, cell by cell. -/
theorem parts_src {A : SP} {a : Option Addr} {n c : Nat} {L : List (Int × Int)} (hA : PartsAt A a L) (hn : n = L.length) (o : Own w (A :: R)) : IsSrc w (.slice a n c) 2 n (flat part L) := by
  refine ⟨a, c, rfl, by rw [flat_length part_len, hn], fun u hu => ?_, ?_⟩
  · obtain ⟨p, _, hp⟩ := List.mem_flatMap.1 hu
    unfold part at hp
    simp at hp
    rcases hp with rfl | rfl <;> rfl
  · cases L with
    | nil => exact .inl hn
    | cons p L' =>
      obtain ⟨g, so, rfl, _, _⟩ := hA _ _ o 0 p rfl
      refine .inr ⟨_, rfl, fun j u hu => ?_⟩
      have hadd : (⟨g, so, none⟩ : Addr).add j = ⟨g, so + j, none⟩ := by unfold Addr.add; split <;> simp_all
      rw [hadd]
      have hj : j < (p :: L').length * 2 := by rw [← flat_length part_len]; exact (List.getElem?_eq_some_iff.1 hu).1
      obtain ⟨q, hq⟩ : ∃ q, (p :: L')[j / 2]? = some q := ⟨_, List.getElem?_eq_getElem (by omega)⟩
      have hg := flat_get part_len (p :: L') (j / 2) (j % 2) q hq (by omega)
      have ej : j / 2 * 2 + j % 2 = j := by omega
      rw [ej, hu] at hg
      obtain ⟨g', so', h1, h2, h3⟩ := hA _ _ o (j / 2) q hq
      cases h1
      rcases (show j % 2 = 0 ∨ j % 2 = 1 by omega) with h | h
      · rw [h] at hg ej
        unfold part at hg
        simp at hg
        rw [hg, ← h2]; congr 2; omega
      · rw [h] at hg ej
        unfold part at hg
        simp at hg
        rw [hg, ← h3]; congr 2; omega

def RERel1 (b : Nat) (reb now : Int) (l : List (Int × Int)) (tags : List Int) (L : List (Int × Int)) (B : Bool) (A S : SP) (R : List SP) (w : World) (v5 : Value) (wr : World) : Prop :=
  ∃ (i : Nat) (last : Int), v5 = .int .i64 (i : Int) ∧ i ≤ L.length ∧ eligBad last (L.drop i) = B ∧ (0 < i → 0 ≤ last ∧ ∃ y, L[i - 1]? = some (last, y)) ∧ (i = 0 → last = -1) ∧ (∀ q ∈ L.take i, 0 ≤ q.1 ∧ q.1 < 32) ∧ Own wr (A :: RefR S b reb l tags now :: S :: R) ∧ Calm w wr

def RERel2 (b : Nat) (reb now : Int) (l : List (Int × Int)) (L : List (Int × Int)) (TG : List Int) (A S : SP) (R : List SP) (w : World) (v6 : Value) (wr : World) : Prop :=
  ∃ (i : Nat) (tags' : List Int), v6 = .int .i64 (i : Int) ∧ i ≤ L.length ∧ tagsE l now (L.drop i) tags' = TG ∧ (∀ x ∈ tags', 0 ≤ x ∧ x ≤ 1099511627776) ∧ Own wr (A :: RefR S b reb l tags' now :: S :: R) ∧ Calm w wr

set_option maxHeartbeats 6400000 in
set_option maxRecDepth 100000 in
theorem refElig_spec (A : SP) (a : Option Addr) (n c : Nat) (L : List (Int × Int)) (hA : PartsAt A a L) (hn : n = L.length) (hn2 : n ≤ 1000) (hl2 : l.length ≤ 1000) (hv : ∀ x ∈ tags, 0 ≤ x ∧ x ≤ 1099511627776) (hnow : 0 ≤ now ∧ now ≤ 1099511627776)
    (o : Own w (A :: RefR S b reb l tags now :: S :: R)) :
    Calls Tryz.prog 98 #[.pointer (some ⟨b, 0, none⟩), .slice a n c] w (RefElig b reb now l tags L A S R w) := by
  have hT : RERel1 b reb now l tags L (eligBad (-1) L) A S R w (.int .i64 0) w := ⟨0, -1, rfl, by omega, rfl, by omega, fun _ => rfl, by simp, o, Calm.refl w⟩
  generalize hBB : eligBad (-1) L = B at *
  have HBB := Lib.hid hBB
  clear hBB
  have Hn := Lib.hid hn
  have HV := Lib.hid hv
  clear hn hv
  go_enter Tryz.func98, Tryz.ntmps98
  go_wp2
  go_loopw [5] (fun v5 wr => RERel1 b reb now l tags L B A S R w v5 wr) (fun v5 _ => n - (intOf v5).toNat)
  case atStart => exact hT
  case round =>
    clear hT
    obtain ⟨i, last, rfl, hi, hE, hpos, hzero, htk, oR, kR⟩ := hrel
    have HB := Lib.hid hE
    have HTK := Lib.hid htk
    clear hE htk
    by_cases hlt : i < n
    · obtain ⟨p, hp⟩ : ∃ p, L[i]? = some p := ⟨_, List.getElem?_eq_getElem (by have := Hn.out; omega)⟩
      obtain ⟨g, so, rfl, d0, d1⟩ := hA _ _ oR i _ hp
      have HD := Lib.hid (drop_at hp)
      obtain ⟨x, y⟩ := p
      dsimp only at d0 d1
      have HP := Lib.hid hp
      clear hp
      have hnext : 0 ≤ x → x < 32 → ∀ q ∈ L.take (i + 1), 0 ≤ q.1 ∧ q.1 < 32 := fun h1 h2 q hq => by
        rw [List.take_add_one, HP.out] at hq
        rcases List.mem_append.1 hq with hq | hq
        · exact HTK.out q hq
        · simp at hq; subst hq; exact ⟨h1, h2⟩
      have HN := Lib.hid hnext
      clear hnext
      have badk : ∀ m, eligBad (-1) L = true → RefElig b reb now l tags L A S R w (.returned (.int .i64 1)) (wr.drewN m) := fun m hb => by
        rw [RefElig, if_pos hb]
        exact ⟨rfl, oR.drewN _, kR.dn _⟩
      have BADK := Lib.hid badk
      clear badk
      by_cases hi0 : i = 0
      · have hl1 := hzero hi0
        have hd0 : decide ((0 : Int) < (i : Int)) = false := by simp; omega
        have hd1 : decide (0 < i) = false := by simp; omega
        have hin : ¬ (0 : Int) < (i : Int) := by omega
        have HI0 := Lib.hid hi0
        have hi00 : i ≤ 0 := by omega
        have hl11 : last ≤ -1 := by omega
        have hl12 : -1 ≤ last := by omega
        clear hpos hzero hi0 hl1
        by_cases h1 : x < 0
        · have dh1 : decide (x < 0) = true := by simpa using h1
          go_wp2
          go_quiet (fail)
          go_wp2
          go_ret
          exact BADK.out _ (HBB.out.trans (by rw [← HB.out, HD.out, eligBad_step]; exact .inl (by omega)))
        · have dh1 : decide (x < 0) = false := by simpa using h1
          by_cases h2 : 32 ≤ x
          · have dh2 : decide (32 ≤ x) = true := by simpa using h2
            go_wp2
            go_quiet (fail)
            go_wp2
            go_ret
            exact BADK.out _ (HBB.out.trans (by rw [← HB.out, HD.out, eligBad_step]; exact .inr (.inl h2)))
          · have dh2 : decide (32 ≤ x) = false := by simpa using h2
            by_cases h3 : y < 1
            · have dh3 : decide (y < 1) = true := by simpa using h3
              go_wp2
              go_quiet (fail)
              go_wp2
              go_ret
              exact BADK.out _ (HBB.out.trans (by rw [← HB.out, HD.out, eligBad_step]; exact .inr (.inr (.inl h3))))
            · have dh3 : decide (y < 1) = false := by simpa using h3
              by_cases h4 : 16 < y
              · have dh4 : decide (16 < y) = true := by simpa using h4
                go_wp2
                go_quiet (fail)
                go_wp2
                go_ret
                exact BADK.out _ (HBB.out.trans (by rw [← HB.out, HD.out, eligBad_step]; exact .inr (.inr (.inr (.inl h4)))))
              · have dh4 : decide (16 < y) = false := by simpa using h4
                go_wp2
                go_quiet (fail)
                go_wp2
                go_roundw
                case rel =>
                  refine ⟨i + 1, x, by go_num, by have := Hn.out; omega, ?_, fun _ => ⟨by omega, y, by rw [Nat.add_sub_cancel]; exact HP.out⟩, fun h => by omega, HN.out (by omega) (by omega), oR.drewN _, kR.dn _⟩
                  rw [← HB.out, HD.out, Bool.eq_iff_iff, eligBad_step]
                  constructor
                  · exact fun h => .inr (.inr (.inr (.inr h)))
                  · rintro (h | h | h | h | h)
                    · omega
                    · omega
                    · omega
                    · omega
                    · exact h
                case measure => simp [intOf]; omega
      · obtain ⟨j, hj⟩ : ∃ j, i = j + 1 := ⟨i - 1, by omega⟩
        obtain ⟨hl0, y', hy'⟩ := hpos (by omega)
        rw [show i - 1 = j from by omega] at hy'
        obtain ⟨g', so', hgg, e0, _⟩ := hA _ _ oR j _ hy'
        cases hgg
        dsimp only at e0
        clear hy' hpos hzero
        have hij1 : ((i : Int) - 1) = (j : Int) := by omega
        have hi1 : (0 : Int) < (i : Int) := by omega
        have hjn : j < n := by omega
        clear hj
        have hi1n : 0 < i := by omega
        have hd0 : decide ((0 : Int) < (i : Int)) = true := by simpa using hi1n
        have hd1 : decide (0 < i) = true := by simpa using hi1n
        by_cases h1 : x < 0
        · have dh1 : decide (x < 0) = true := by simpa using h1
          go_wp2
          go_quiet (fail)
          go_wp2
          go_ret
          exact BADK.out _ (HBB.out.trans (by rw [← HB.out, HD.out, eligBad_step]; exact .inl (by omega)))
        · have dh1 : decide (x < 0) = false := by simpa using h1
          by_cases h2 : 32 ≤ x
          · have dh2 : decide (32 ≤ x) = true := by simpa using h2
            go_wp2
            go_quiet (fail)
            go_wp2
            go_ret
            exact BADK.out _ (HBB.out.trans (by rw [← HB.out, HD.out, eligBad_step]; exact .inr (.inl h2)))
          · have dh2 : decide (32 ≤ x) = false := by simpa using h2
            by_cases h5 : x ≤ last
            · have dh5 : decide (x ≤ last) = true := by simpa using h5
              go_wp2
              go_quiet (fail)
              go_wp2
              go_ret
              exact BADK.out _ (HBB.out.trans (by rw [← HB.out, HD.out, eligBad_step]; exact .inl h5))
            · have dh5 : decide (x ≤ last) = false := by simpa using h5
              by_cases h3 : y < 1
              · have dh3 : decide (y < 1) = true := by simpa using h3
                go_wp2
                go_quiet (fail)
                go_wp2
                go_ret
                exact BADK.out _ (HBB.out.trans (by rw [← HB.out, HD.out, eligBad_step]; exact .inr (.inr (.inl h3))))
              · have dh3 : decide (y < 1) = false := by simpa using h3
                by_cases h4 : 16 < y
                · have dh4 : decide (16 < y) = true := by simpa using h4
                  go_wp2
                  go_quiet (fail)
                  go_wp2
                  go_ret
                  exact BADK.out _ (HBB.out.trans (by rw [← HB.out, HD.out, eligBad_step]; exact .inr (.inr (.inr (.inl h4)))))
                · have dh4 : decide (16 < y) = false := by simpa using h4
                  go_wp2
                  go_quiet (fail)
                  go_wp2
                  go_roundw
                  case rel =>
                    refine ⟨i + 1, x, by go_num, by have := Hn.out; omega, ?_, fun _ => ⟨by omega, y, by rw [Nat.add_sub_cancel]; exact HP.out⟩, fun h => by omega, HN.out (by omega) (by omega), oR.drewN _, kR.dn _⟩
                    rw [← HB.out, HD.out, Bool.eq_iff_iff, eligBad_step]
                    constructor
                    · exact fun h => .inr (.inr (.inr (.inr h)))
                    · rintro (h | h | h | h | h)
                      · omega
                      · omega
                      · omega
                      · omega
                      · exact h
                  case measure => simp [intOf]; omega
    · have hin : i = L.length := by have := Hn.out; omega
      have hBf : eligBad (-1) L = false := HBB.out.trans (by rw [← HB.out, List.drop_eq_nil_of_le (by omega)]; rfl)
      have hrng : ∀ q ∈ L, 0 ≤ q.1 ∧ q.1 < 32 := fun q hq => HTK.out q (by rw [hin, List.take_length]; exact hq)
      have HBf := Lib.hid hBf
      have HR := Lib.hid hrng
      have hT2 : RERel2 b reb now l L (tagsE l now L tags) A S R w (.int .i64 0) wr := ⟨0, tags, rfl, by omega, rfl, HV.out, oR, kR⟩
      obtain ⟨TG, hTG⟩ : ∃ T, tagsE l now L tags = T := ⟨_, rfl⟩
      rw [hTG] at hT2
      have HTG := Lib.hid hTG
      clear hBf hrng hTG hpos hzero HB HTK hin oR kR
      go_wp2
      go_loopw [6] (fun v6 wr' => RERel2 b reb now l L TG A S R w v6 wr') (fun v6 _ => n - (intOf v6).toNat)
      case atStart => exact hT2
      case round =>
        clear hT2 hlt hi
        obtain ⟨i, tags', rfl, hi, hE, hv', oR, kR⟩ := hrel
        have HE := Lib.hid hE
        have HV' := Lib.hid hv'
        clear hE hv'
        obtain ⟨a1, c1, hl, hP, o1⟩ := RefR.iff.1 (oR.up 1)
        have k1 := o1.cell 1
        by_cases hlt : i < n
        · obtain ⟨p, hp⟩ : ∃ p, L[i]? = some p := ⟨_, List.getElem?_eq_getElem (by have := Hn.out; omega)⟩
          obtain ⟨g, so, rfl, d0, d1⟩ := hA _ _ oR i _ hp
          have hpr := HR.out p (List.mem_of_getElem? hp)
          have HD := Lib.hid (drop_at hp)
          obtain ⟨x, y⟩ := p
          dsimp only at d0 d1 hpr
          clear hp
          obtain ⟨x0, rfl⟩ : ∃ x0 : Nat, x = (x0 : Int) := ⟨x.toNat, by omega⟩
          obtain ⟨t, ht⟩ : ∃ t, tags'[x0]? = some t := ⟨_, List.getElem?_eq_getElem (by omega)⟩
          have htr := HV'.out _ (List.mem_of_getElem? ht)
          have htd : Hid (tags'.getD ((x0 : Int)).toNat 0 = t) := Lib.hid (by rw [Int.toNat_natCast, List.getD_eq_getElem?_getD, ht]; rfl)
          have f1 := o1.cell (2 + x0) (refCells_tag ht)
          have k34 := o1.cell 34 (refCells_now hl)
          have hfz := o1.frozen
          have hbl := o1.celLt
          have hat := at_spec (c := c1) (x0 : Int) hP.1 rfl hl2 ((o1.up 2).drew)
          obtain ⟨z, hz⟩ : ∃ z, atF (x0 : Int) 0 l = z := ⟨_, rfl⟩
          rw [hz] at hat
          have HZ := Lib.hid hz
          have hx32 : x0 < 32 := by omega
          have hxI0 : ¬ ((x0 : Int) < 0) := by omega
          have hx0l : x0 < tags'.length := by omega
          have oN := o1.setCell (2 + x0) (.int .i64 (max t now))
          rw [refCells_setTag hx0l] at oN
          clear ht hz
          by_cases hneg : z < 0
          · go_wp2
            refine wp_region_tail 9 (by kernel_rfl) (by kernel_rfl) ?_
            simp only [List.take_succ_cons, List.take_zero, List.drop_succ_cons, List.drop_zero]
            repeat still_step
            refine wpStill_nil ?_
            go_wp2_with fail
            refine hat.mono ?_
            rintro e4 w4 ⟨rfl, rfl⟩
            go_wp2
            refine wp_region_tail 23 (by kernel_rfl) (by kernel_rfl) ?_
            simp only [List.take_succ_cons, List.take_zero, List.drop_succ_cons, List.drop_zero]
            repeat still_step
            refine wpStill_nil ?_
            go_wp2
            go_roundw
            case rel =>
              refine ⟨i + 1, tags'.set x0 (max t now), by go_num, by have := Hn.out; omega, ?_, fun u hu => ?_, ?_, ⟨kR.os, kR.tape, kR.output⟩⟩
              · rw [← HE.out, HD.out, tagsE]
                dsimp only
                rw [HZ.out, if_pos hneg, htd.out, Int.toNat_natCast]
              · rcases List.mem_or_eq_of_mem_set hu with h | h
                · exact HV'.out u h
                · omega
              · exact Own.swap (RefR.iff.2 ⟨a1, c1, by rw [List.length_set]; exact hl, hP, (oN.drew).drew⟩)
            case measure => simp [intOf]; omega
          · go_wp2
            refine wp_region_tail 9 (by kernel_rfl) (by kernel_rfl) ?_
            simp only [List.take_succ_cons, List.take_zero, List.drop_succ_cons, List.drop_zero]
            repeat still_step
            refine wpStill_nil ?_
            go_wp2_with fail
            refine hat.mono ?_
            rintro e4 w4 ⟨rfl, rfl⟩
            go_wp2
            go_roundw
            case rel =>
              refine ⟨i + 1, tags', by go_num, by have := Hn.out; omega, ?_, HV'.out, oR.drew, ⟨kR.os, kR.tape, kR.output⟩⟩
              rw [← HE.out, HD.out, tagsE]
              dsimp only
              rw [HZ.out, if_neg (by omega)]
            case measure => simp [intOf]; omega
        · have hE : tags' = TG := by rw [← HE.out, List.drop_eq_nil_of_le (by have := Hn.out; omega)]; rfl
          have HE2 := Lib.hid hE
          have hbl := o1.celLt
          have hfz := o1.frozen
          clear hE
          have oZ := slc_zero (e := 145) (size := 2) ((o1.alloc (.cells #[] 145)))
          have hsrc := parts_src (c := c) hA Hn.out (oZ.up 2)
          go_wp2_with (at_builtin; refine wpList_append_src rfl _ _ rfl Tryz.partT rfl oZ rfl hsrc (by unfold maxLen; omega) (by omega) ?c1)
          case c1 =>
          intro a' cap' w5 o5 k5
          try simp only [Nat.zero_add, List.nil_append] at o5
          have q1 := (o5.up 1).cell 1
          have qf := (o5.up 1).frozen
          have ql := (o5.up 1).celLt
          have o6 := (o5.up 1).setCell 1 (.slice a' n cap')
          rw [refCells_setIn] at o6
          clear hsrc
          go_wp2
          go_ret
          rw [RefElig, if_neg (by rw [HBf.out]; simp), HTG.out, ← HE2.out]
          have hnL := Hn.out
          have o7a : Own (w5.setCell ⟨b, 1, none⟩ (.slice a' n cap')) (slc 145 2 a' n cap' (flat part L) :: S :: cel b 105 (refCells reb a' n cap' tags' now) :: A :: R) := o6.re [1, 3, 0, 2]
          have o7b : Own (w5.setCell ⟨b, 1, none⟩ (.slice a' n cap')) (st [slc 145 2 a' n cap' (flat part L), S] :: cel b 105 (refCells reb a' n cap' tags' now) :: A :: R) := Own.st.2 o7a
          have o7 := o7b.re [1, 2, 0]
          refine ⟨st [slc 145 2 a' n cap' (flat part L), S], PExt.add _ _, rfl, ?_, ⟨?_, ?_, ?_⟩⟩
          · refine Own.swap (RefR.iff.2 ⟨a', cap', hl, ⟨PartsAt.new (partsAt_slc a' n cap' L hnL), by rw [← hnL]; exact o5.slc_len.2.1⟩, ?_⟩)
            rw [← hnL]
            exact o7
          · exact k5.os.trans kR.os
          · exact k5.tape.trans kR.tape
          · exact k5.output.trans kR.output

def eraseF (f : Int) : List (Int × Int) → List (Int × Int)
  | [] => []
  | p :: l => if p.1 = f then l else p :: eraseF f l
def forgetTags (tags : List Int) (f : Int) : List Int := if 0 ≤ f ∧ f < 32 then tags.set f.toNat 0 else tags
theorem eraseF_none {f : Int} : ∀ (l : List (Int × Int)), (∀ p ∈ l, p.1 ≠ f) → eraseF f l = l
  | [], _ => rfl
  | p :: l, h => by unfold eraseF; rw [if_neg (h p (by simp)), eraseF_none l (fun q hq => h q (by simp [hq]))]
theorem eraseF_at {f : Int} : ∀ (l : List (Int × Int)) (j i : Nat), atF f j l = ((j + i : Nat) : Int) → i < l.length → eraseF f l = l.take i ++ l.drop (i + 1)
  | [], _, _, _, h => by simp at h
  | p :: l, j, i, h, hi => by
    unfold atF at h
    unfold eraseF
    by_cases hp : p.1 = f
    · rw [if_pos hp] at h ⊢
      have : i = 0 := by omega
      subst this
      rfl
    · rw [if_neg hp] at h ⊢
      cases i with
      | zero =>
        exfalso
        have : ∀ (l : List (Int × Int)) (k : Nat), atF f k l = -1 ∨ (k : Int) ≤ atF f k l := by
          intro l
          induction l with
          | nil => intro k; left; rfl
          | cons q l ih =>
            intro k
            unfold atF
            split
            · right; exact Int.le_refl _
            · rcases ih (k + 1) with h | h
              · left; exact h
              · right; push_cast at h; omega
        rcases this l (j + 1) with h' | h' <;> rw [h] at h' <;> push_cast at h' <;> omega
      | succ i =>
        rw [eraseF_at l (j + 1) i (by rw [h]; congr 1; omega) (by simpa using hi)]
        rfl
end
end Go.Proofs.YtjpahfkchhnpoaaGreat

/- The reference order of chapter 22: Forget. -/
namespace Go.Proofs.YtjpahfkchhnpoaaGreat
open Go.RowKit
open SP
section
variable {S : SP} {W w w' : World} {R : List SP} {b : Nat} {reb now : Int} {l : List (Int × Int)} {tags : List Int}

/-- A part of what can be read. -/
theorem parts_cut {A : SP} {g so : Nat} {i k c : Nat} {L : List (Int × Int)} (hA : PartsAt A (some ⟨g, so, none⟩) L) (hik : i + k ≤ L.length) (o : Own w (A :: R)) :
    IsSrc w (.slice (some ⟨g, so + i * 2, none⟩) k c) 2 k (flat part ((L.drop i).take k)) := by
  have hl : ((L.drop i).take k).length = k := by rw [List.length_take, List.length_drop]; omega
  have hB : PartsAt A (some ⟨g, so + i * 2, none⟩) ((L.drop i).take k) := fun w R o j y hy => by
    have hj := (List.getElem?_eq_some_iff.1 hy).1
    rw [hl] at hj
    have hy2 : L[i + j]? = some y := by rw [List.getElem?_take, if_pos hj, List.getElem?_drop] at hy; exact hy
    obtain ⟨g', so', h1, h2, h3⟩ := hA w R o (i + j) y hy2
    cases h1
    refine ⟨g, so + i * 2, rfl, ?_, ?_⟩
    · rw [← h2]; congr 2; omega
    · rw [← h3]; congr 2; omega
  exact parts_src hB hl.symm o

def RefForg (b : Nat) (reb now : Int) (L : List (Int × Int)) (tags : List Int) (S : SP) (R : List SP) (w : World) (e : Ending) (w' : World) : Prop :=
  ∃ S', PExt S S' ∧ Ret (.tuple #[]) (RefR S' b reb L tags now :: S' :: R) w e w'

set_option maxHeartbeats 3200000 in
set_option maxRecDepth 100000 in
theorem refForget_none (f : Int) (hn2 : l.length ≤ 1000) (hf : atF f 0 l = -1) (o : Own w (RefR S b reb l tags now :: S :: R)) :
    Calls Tryz.prog 49 #[.pointer (some ⟨b, 0, none⟩), .int .i64 f] w (Ret (.tuple #[]) (RefR S b reb l (forgetTags tags f) now :: S :: R) w) := by
  obtain ⟨a, c, hl, hP, o1⟩ := RefR.iff.1 o
  have c1 := o1.cell 1
  have hat := at_spec (c := c) f hP.1 rfl hn2 (o1.up 1)
  rw [hf] at hat
  have hfz := o1.frozen
  have hlt := o1.celLt
  clear hf
  by_cases h0 : 0 ≤ f
  · by_cases h32 : f < 32
    · have e : forgetTags tags f = tags.set f.toNat 0 := if_pos ⟨h0, h32⟩
      obtain ⟨x0, rfl⟩ : ∃ x0 : Nat, f = (x0 : Int) := ⟨f.toNat, by omega⟩
      rw [Int.toNat_natCast] at e
      obtain ⟨t, ht⟩ : ∃ t, tags[x0]? = some t := ⟨_, List.getElem?_eq_getElem (by omega)⟩
      have f1 := o1.cell (2 + x0) (refCells_tag ht)
      have oN := o1.setCell (2 + x0) (.int .i64 0)
      rw [refCells_setTag (by omega)] at oN
      have HE := Lib.hid e
      have hx32 : x0 < 32 := by omega
      have hxI1 : ¬ ((x0 : Int) < 0) := by omega
      clear ht e
      go_enter Tryz.func49, Tryz.ntmps49
      go_wp2_with fail
      refine hat.mono ?_
      rintro e1 w1 ⟨rfl, rfl⟩
      go_wp2
      go_end0
      rw [HE.out]
      exact ⟨rfl, RefR.iff.2 ⟨a, c, by rw [List.length_set]; exact hl, hP, oN⟩, ⟨rfl, rfl, rfl⟩⟩
    · have e : forgetTags tags f = tags := if_neg (by omega)
      rw [e]; clear e
      go_enter Tryz.func49, Tryz.ntmps49
      go_wp2_with fail
      refine hat.mono ?_
      rintro e1 w1 ⟨rfl, rfl⟩
      go_wp2
      go_end0
      exact ⟨rfl, o, ⟨rfl, rfl, rfl⟩⟩
  · have e : forgetTags tags f = tags := if_neg (by omega)
    rw [e]; clear e
    go_enter Tryz.func49, Tryz.ntmps49
    go_wp2_with fail
    refine hat.mono ?_
    rintro e1 w1 ⟨rfl, rfl⟩
    go_wp2
    go_end0
    exact ⟨rfl, o, ⟨rfl, rfl, rfl⟩⟩

def ForgMid (b : Nat) (reb now : Int) (L : List (Int × Int)) (tags : List Int) (S : SP) (R : List SP) (w wc : World) : Prop :=
  ∃ S' a c, PExt S S' ∧ PartsAt S' a L ∧ L.length ≤ c ∧ Own wc (cel b 105 (refCells reb a L.length c tags now) :: S' :: R) ∧ Calm w wc
theorem forg_mid {w6 : World} {a0 a6 : Option Addr} {n0 c0 n c6 : Nat} {xs ys : List (Int × Int)} (hn : n = (xs ++ ys).length)
    (o : Own w6 (slc 145 2 a6 n c6 (flat part xs ++ flat part ys) :: cel b 105 (refCells reb a0 n0 c0 tags now) :: S :: R)) (k : Calm w w6) :
    ForgMid b reb now (xs ++ ys) tags S R w (w6.setCell ⟨b, 1, none⟩ (.slice a6 n c6)) := by
  rw [← flat_append] at o
  subst hn
  have o6 := o.swap.setCell 1 (.slice a6 (xs ++ ys).length c6)
  rw [refCells_setIn] at o6
  have o7a : Own (w6.setCell ⟨b, 1, none⟩ (.slice a6 (xs ++ ys).length c6)) (slc 145 2 a6 (xs ++ ys).length c6 (flat part (xs ++ ys)) :: S :: cel b 105 (refCells reb a6 (xs ++ ys).length c6 tags now) :: R) := o6.re [1, 2, 0]
  have o7b : Own (w6.setCell ⟨b, 1, none⟩ (.slice a6 (xs ++ ys).length c6)) (st [slc 145 2 a6 (xs ++ ys).length c6 (flat part (xs ++ ys)), S] :: cel b 105 (refCells reb a6 (xs ++ ys).length c6 tags now) :: R) := Own.st.2 o7a
  exact ⟨_, a6, c6, PExt.add _ _, PartsAt.new (partsAt_slc a6 _ c6 _ rfl), o.slc_len.2.1, o7b.swap, ⟨k.os, k.tape, k.output⟩⟩

set_option maxHeartbeats 3200000 in
set_option maxRecDepth 100000 in
theorem refForget_some (f : Nat) (i : Nat) (hn2 : l.length ≤ 1000) (h32 : f < 32) (hi : i < l.length) (hf : atF f 0 l = (i : Int)) (o : Own w (RefR S b reb l tags now :: S :: R)) :
    Calls Tryz.prog 49 #[.pointer (some ⟨b, 0, none⟩), .int .i64 (f : Int)] w (RefForg b reb now (l.take i ++ l.drop (i + 1)) (tags.set f 0) S R w) := by
  obtain ⟨a, c, hl, hP, o1⟩ := RefR.iff.1 o
  have c1 := o1.cell 1
  have hat := at_spec (c := c) f hP.1 rfl hn2 (o1.up 1)
  rw [hf] at hat
  obtain ⟨g, so, rfl, _, _⟩ := hP.1 _ _ (o1.up 1) i _ (List.getElem?_eq_getElem hi)
  have oZ := slc_zero (e := 145) (size := 2) ((o1.drew.alloc (.cells #[] 145)))
  have s1 := parts_cut (i := 0) (k := i) (c := c) hP.1 (by omega) (oZ.up 2)
  rw [Nat.zero_mul, Nat.add_zero, List.drop_zero] at s1
  have hp2 : ∀ (w : World) (R : List SP) (a : Option Addr) (c' : Nat), (a = some ⟨g, so + (i + 1) * 2, none⟩ ∨ l.length - (i + 1) = 0) → Own w (S :: R) → IsSrc w (.slice a (l.length - (i + 1)) c') 2 (l.length - (i + 1)) (flat part (l.drop (i + 1))) := fun w R a c' ha o => by
    have e : ((l.drop (i + 1)).take (l.length - (i + 1))) = l.drop (i + 1) := List.take_of_length_le (by rw [List.length_drop]; omega)
    rcases ha with rfl | ha
    · have := parts_cut (i := i + 1) (k := l.length - (i + 1)) (c := c') hP.1 (by omega) o
      rw [e] at this
      exact this
    · rw [ha]
      have : l.drop (i + 1) = [] := List.drop_eq_nil_of_le (by omega)
      rw [this]
      exact ⟨a, c', rfl, by simp [flat], by simp [flat], .inl rfl⟩
  have HP2 := Lib.hid hp2
  have hlen2 : (flat part (l.take i)).length = i * 2 := by rw [flat_length part_len, List.length_take]; omega
  have hcat : flat part (l.take i) ++ flat part (l.drop (i + 1)) = flat part (l.take i ++ l.drop (i + 1)) := (flat_append _ _ _).symm
  have hcl : (l.take i ++ l.drop (i + 1)).length = i + (l.length - (i + 1)) := by rw [List.length_append, List.length_take, List.length_drop]; omega
  have HC1 := Lib.hid hcat
  have HC2 := Lib.hid hcl
  have hfz := o1.frozen
  have hlt := o1.celLt
  obtain ⟨t, ht⟩ : ∃ t, tags[f]? = some t := ⟨_, List.getElem?_eq_getElem (by omega)⟩
  have HT := Lib.hid ht
  have hfI : (f : Int) < 32 := by omega
  have hfI0 : ¬ ((f : Int) < 0) := by omega
  clear hf hp2 hcat hcl hlen2 ht
  have hcap := hP.2
  have b1 : (0 : Int) ≤ (i : Int) := by omega
  have b2 : (i : Int) ≤ (c : Int) := by omega
  have b2' : i ≤ c := by omega
  have b7 : (i : Int) + 1 ≤ (l.length : Int) := by omega
  have b8 : (i : Int) + 1 ≤ (c : Int) := by omega
  have b9 : i + 1 ≤ l.length := by omega
  have b4 : 0 ≤ (i : Int) + 1 := by omega
  have m1 : 0 + i ≤ maxLen := by unfold maxLen; omega
  have m2 : (0 + i) * 16 ≤ 140737488355328 := by omega
  have m3 : i + (l.length - (i + 1)) ≤ maxLen := by unfold maxLen; omega
  have m4 : (i + (l.length - (i + 1))) * 16 ≤ 140737488355328 := by omega
  have b5 : IntKind.i64.wrap ((i : Int) + 1) = (i : Int) + 1 := by rw [IntKind.wrap_i64]; omega
  have b6 : ((i : Int) + 1).toNat = i + 1 := by omega
  have M1 := Lib.hid m1
  have M2 := Lib.hid m2
  have M3 := Lib.hid m3
  have M4 := Lib.hid m4
  clear m1 m2 m3 m4
  have hfI2 : (0 : Int) ≤ (f : Int) := by omega
  by_cases hic : i + 1 = c
  · subst hic
    have z1 : (i : Int) ≤ (i : Int) + 1 := by omega
    have z2 : (l.length : Int) ≤ (i : Int) + 1 := by omega
    have z3 : l.length ≤ i + 1 := by omega
    have hdz : l.drop (i + 1) = [] := List.drop_eq_nil_of_le z3
    have HDZ := Lib.hid hdz
    have src0 : ∀ (w : World) (a : Option Addr) (c' : Nat), IsSrc w (.slice a 0 c') 2 0 [] := fun w a c' => ⟨a, c', rfl, by simp, by simp, .inl rfl⟩
    have SRC := Lib.hid src0
    have m5 : i + 0 ≤ maxLen := by unfold maxLen; omega
    have m6 : (i + 0) * 16 ≤ 140737488355328 := by omega
    have M5 := Lib.hid m5
    have M6 := Lib.hid m6
    have hti : Hid ((l.take i ++ ([] : List (Int × Int))).length = i) := Lib.hid (by rw [List.append_nil, List.length_take]; omega)
    clear hdz src0 m5 m6
    go_enter Tryz.func49, Tryz.ntmps49
    go_wp2_with fail
    refine hat.mono ?_
    rintro e1 w1 ⟨rfl, rfl⟩
    go_upto_region 2 with fail
    go_cut [29] (fun _ wc => ForgMid b reb now (l.take i ++ l.drop (i + 1)) tags S R w wc)
    case first =>
      go_region_law (first
        | (refine step_append_src rfl _ _ rfl Tryz.partT rfl oZ rfl s1 M1.out M2.out ?_; intro a5 c5 w5 o5 k5; have o5z := slc_plus o5; have q5 := (o5.up 1).cell 1)
        | (refine step_append_src rfl _ _ rfl Tryz.partT rfl o5z rfl (SRC.out _ _ _) M5.out M6.out ?_; intro a6 c6 w6 o6 k6; have q6 := (o6.up 1).cell 1; have qf6 := (o6.up 1).frozen; have ql6 := (o6.up 1).celLt))
      all_goals go_wp2
      all_goals go_meet
      all_goals (have k7 := Calm.trans k5 k6; rw [HDZ.out]; exact forg_mid (n := i) (ys := []) hti.out.symm o6 ⟨k7.os, k7.tape, k7.output⟩)
    case rest =>
      obtain ⟨S', a7, c7, hE, hP7, hl7, o7, k7⟩ := hcut
      have f1 := o7.cell (2 + f) (refCells_tag HT.out)
      have qf := o7.frozen
      have ql := o7.celLt
      have oN := o7.setCell (2 + f) (.int .i64 0)
      rw [refCells_setTag (by omega)] at oN
      clear s1 oZ
      go_wp2
      go_end0
      exact ⟨S', hE, rfl, RefR.iff.2 ⟨a7, c7, by rw [List.length_set]; exact hl, ⟨hP7, hl7⟩, oN⟩, ⟨k7.os, k7.tape, k7.output⟩⟩
  · have hic2 : ((i : Int) + 1 == (c : Int)) = false := by rw [beq_eq_false_iff_ne]; omega
    have hic3 : ¬ c = i + 1 := by omega
    go_enter Tryz.func49, Tryz.ntmps49
    go_wp2_with fail
    refine hat.mono ?_
    rintro e1 w1 ⟨rfl, rfl⟩
    go_upto_region 2 with fail
    go_cut [29] (fun _ wc => ForgMid b reb now (l.take i ++ l.drop (i + 1)) tags S R w wc)
    case first =>
      go_region_law (first
        | (refine step_append_src rfl _ _ rfl Tryz.partT rfl oZ rfl s1 M1.out M2.out ?_; intro a5 c5 w5 o5 k5; have o5z := slc_plus o5; have q5 := (o5.up 1).cell 1)
        | (refine step_append_src rfl _ _ rfl Tryz.partT rfl o5z rfl (HP2.out _ _ _ _ (.inl rfl) (o5z.up 2)) M3.out M4.out ?_; intro a6 c6 w6 o6 k6; have q6 := (o6.up 1).cell 1; have qf6 := (o6.up 1).frozen; have ql6 := (o6.up 1).celLt))
      all_goals go_wp2
      all_goals go_meet
      all_goals (have k7 := Calm.trans k5 k6; exact forg_mid HC2.out.symm o6 ⟨k7.os, k7.tape, k7.output⟩)
    case rest =>
      obtain ⟨S', a7, c7, hE, hP7, hl7, o7, k7⟩ := hcut
      have f1 := o7.cell (2 + f) (refCells_tag HT.out)
      have qf := o7.frozen
      have ql := o7.celLt
      have oN := o7.setCell (2 + f) (.int .i64 0)
      rw [refCells_setTag (by omega)] at oN
      clear s1 oZ
      go_wp2
      go_end0
      exact ⟨S', hE, rfl, RefR.iff.2 ⟨a7, c7, by rw [List.length_set]; exact hl, ⟨hP7, hl7⟩, oN⟩, ⟨k7.os, k7.tape, k7.output⟩⟩
end
end Go.Proofs.YtjpahfkchhnpoaaGreat

/- CompScript, the plain law: the order of comp and the reference order stand for the same state. -/
namespace Go.Proofs.YtjpahfkchhnpoaaGreat
open Go.RowKit
open SP

structure CsRel (el tg : List (Int × Int)) (tm : Int) (tags : List Int) (now : Int) : Prop where
  uniq : Uniq tg
  vals : ∀ x ∈ tg, 0 ≤ x.2 ∧ x.2 ≤ 1099511627776
  el : eligBad (-1) el = false
  len : tags.length = 32
  tag : ∀ f, tget tg f = if 0 ≤ f ∧ f < 32 then tags.getD f.toNat 0 else 0
  now : now = tm
  tm : 0 ≤ tm ∧ tm ≤ 1099511627776

theorem elig_asc : ∀ (el : List (Int × Int)) (last : Int), eligBad last el = false → el.Pairwise (fun a b => a.1 < b.1) ∧ ∀ p ∈ el, last < p.1 ∧ p.1 < 32 ∧ 1 ≤ p.2 ∧ p.2 ≤ 16
  | [], _, _ => ⟨.nil, by simp⟩
  | p :: el, last, h => by
    have h1 : ¬ eligBad last (p :: el) = true := by rw [h]; simp
    rw [eligBad_step] at h1
    have h2 : ¬ eligBad p.1 el = true := fun e => h1 (.inr (.inr (.inr (.inr e))))
    obtain ⟨h3, h4⟩ := elig_asc el p.1 (by simpa using h2)
    have a1 : last < p.1 := by have : ¬ p.1 ≤ last := fun e => h1 (.inl e); omega
    have a2 : p.1 < 32 := by have : ¬ 32 ≤ p.1 := fun e => h1 (.inr (.inl e)); omega
    have a3 : 1 ≤ p.2 := by have : ¬ p.2 < 1 := fun e => h1 (.inr (.inr (.inl e))); omega
    have a4 : p.2 ≤ 16 := by have : ¬ 16 < p.2 := fun e => h1 (.inr (.inr (.inr (.inl e)))); omega
    refine ⟨List.pairwise_cons.2 ⟨fun q hq => (h4 q hq).1, h3⟩, fun q hq => ?_⟩
    rcases List.mem_cons.1 hq with rfl | hq
    · exact ⟨a1, a2, a3, a4⟩
    · have := h4 q hq; omega
theorem elig_of : ∀ (el : List (Int × Int)) (last : Int), el.Pairwise (fun a b => a.1 < b.1) → (∀ p ∈ el, last < p.1 ∧ p.1 < 32 ∧ 1 ≤ p.2 ∧ p.2 ≤ 16) → eligBad last el = false := fun el last h1 h2 =>
  eligBad_ok el last (by rw [List.pairwise_map]; exact h1) h2

section
variable {el tg : List (Int × Int)} {tm now : Int} {tags : List Int}
theorem CsRel.start : CsRel [] [] 0 (List.replicate 32 0) 0 := by
  refine ⟨by simp [Uniq], by simp, rfl, by decide, fun f => ?_, rfl, by simp⟩
  show (0 : Int) = _
  split
  · rename_i h
    have : f.toNat < 32 := by omega
    rw [List.getD_eq_getElem?_getD, List.getElem?_replicate, if_pos this]; rfl
  · rfl
theorem CsRel.keys (h : CsRel el tg tm tags now) : el.Pairwise (fun a b => a.1 < b.1) ∧ ∀ p ∈ el, 0 ≤ p.1 ∧ p.1 < 32 ∧ 1 ≤ p.2 ∧ p.2 ≤ 16 := by
  obtain ⟨h1, h2⟩ := elig_asc el (-1) h.el
  exact ⟨h1, fun p hp => by have := h2 p hp; omega⟩
theorem asc_uniq (h : el.Pairwise (fun a b => a.1 < b.1)) : Uniq el := by
  unfold Uniq
  rw [List.Nodup, List.pairwise_map]
  exact h.imp Int.ne_of_lt
theorem CsRel.keyOk (h : CsRel el tg tm tags now) : KeyOk el := ⟨asc_uniq h.keys.1, fun x hx => by have := h.keys.2 x hx; omega⟩
theorem CsRel.elen (h : CsRel el tg tm tags now) : el.length ≤ 32 := by
  have key : ∀ (l : List (Int × Int)) (n : Int), l.Pairwise (fun a b => a.1 < b.1) → (∀ x ∈ l, n ≤ x.1 ∧ x.1 < 32) → n ≤ 32 → (l.length : Int) ≤ 32 - n := by
    intro l
    induction l with
    | nil => intro n _ _ h; simp; omega
    | cons a l ih =>
      intro n hp hr hn
      rw [List.pairwise_cons] at hp
      have ha := hr a (by simp)
      have := ih (a.1 + 1) hp.2 (fun x hx => ⟨by have := hp.1 x hx; omega, (hr x (by simp [hx])).2⟩) (by omega)
      rw [List.length_cons]
      omega
  have := key el 0 h.keys.1 (fun x hx => by have := h.keys.2 x hx; omega) (by omega)
  omega
theorem CsRel.tval (h : CsRel el tg tm tags now) : ∀ x ∈ tags, 0 ≤ x ∧ x ≤ 1099511627776 := fun x hx => by
  obtain ⟨i, hi⟩ := List.getElem?_of_mem hx
  have hl := (List.getElem?_eq_some_iff.1 hi).1
  have h1 := h.tag (i : Int)
  rw [if_pos (by have := h.len; omega), Int.toNat_natCast, List.getD_eq_getElem?_getD, hi] at h1
  have h2 := tget_range h.vals (i : Int)
  rw [h1] at h2
  exact h2
theorem CsRel.sortK (h : CsRel el tg tm tags now) : Go.Proofs.YtjpahfkchhnpoaaGreat.sortK el = el.map (·.1) := by
  unfold Go.Proofs.YtjpahfkchhnpoaaGreat.sortK
  refine List.Perm.eq_of_pairwise (le := fun a b => a ≤ b) (fun a b _ _ h1 h2 => Int.le_antisymm h1 h2) ?_ ?_ (List.mergeSort_perm _ _)
  · have := List.pairwise_mergeSort (le := leI) (fun a b c h1 h2 => by simp [leI] at *; omega) (fun a b => by simp [leI]; omega) (el.map (·.1))
    exact this.imp (fun h => by simpa [leI] using h)
  · rw [List.pairwise_map]; exact h.keys.1.imp Int.le_of_lt

theorem least_sel (htag : ∀ f, tget tg f = if 0 ≤ f ∧ f < 32 then tags.getD f.toNat 0 else 0) : ∀ (l : List (Int × Int)) (k : Int), 0 ≤ k → k < 32 → (∀ p ∈ l, 0 ≤ p.1 ∧ p.1 < 32) → leastL tg (l.map (·.1)) k = selL tags l k
  | [], _, _, _, _ => rfl
  | p :: l, k, h0, h1, hp => by
    have hpp := hp p (by simp)
    rw [List.map_cons]
    unfold leastL selL
    have e1 : (k < 0 ∨ tget tg p.1 < tget tg k) ↔ tags.getD p.1.toNat 0 < tags.getD k.toNat 0 := by
      rw [htag p.1, htag k, if_pos hpp, if_pos ⟨h0, h1⟩]
      constructor
      · rintro (h | h)
        · omega
        · exact h
      · exact .inr
    simp only [e1]
    refine least_sel htag l _ ?_ ?_ (fun q hq => hp q (by simp [hq])) <;> split <;> omega
theorem CsRel.least (h : CsRel el tg tm tags now) : leastF el tg = match el with | [] => -1 | p :: l => selL tags l p.1 := by
  unfold leastF
  rw [h.sortK]
  have hk := h.keys.2
  cases el with
  | nil => rfl
  | cons p l =>
    have hp := hk p (by simp)
    rw [List.map_cons]
    unfold leastL
    rw [if_pos (.inl (by omega))]
    exact least_sel h.tag l p.1 hp.1 hp.2.1 (fun q hq => by have := hk q (by simp [hq]); omega)
theorem selL_mem (tags : List Int) : ∀ (l : List (Int × Int)) (k : Int), selL tags l k = k ∨ selL tags l k ∈ l.map (·.1)
  | [], _ => .inl rfl
  | p :: l, k => by
    unfold selL
    rcases selL_mem tags l (if tags.getD p.1.toNat 0 < tags.getD k.toNat 0 then p.1 else k) with h | h
    · rw [h]
      split
      · exact .inr (by simp)
      · exact .inl rfl
    · exact .inr (by simp only [List.map_cons, List.mem_cons]; exact .inr h)
theorem CsRel.sel (h : CsRel el tg tm tags now) : selV el tg = refSel tags el := by
  unfold selV
  rw [h.least]
  have hk := h.keys.2
  cases el with
  | nil => rfl
  | cons p l =>
    have h0 : 0 ≤ selL tags l p.1 := by
      rcases selL_mem tags l p.1 with h1 | h1
      · rw [h1]; exact (hk p (by simp)).1
      · obtain ⟨q, hq, hqe⟩ := List.mem_map.1 h1
        rw [← hqe]; exact (hk q (by simp [hq])).1
    show (if selL tags l p.1 < 0 then _ else _) = _
    rw [if_neg (by omega)]
    rfl

/-! ### Forget -/
theorem mdel_eraseF (f : Int) : ∀ el : List (Int × Int), mdel el f = eraseF f el
  | [] => rfl
  | p :: el => by
    obtain ⟨k, v⟩ := p
    unfold mdel eraseF
    by_cases h : f = k
    · rw [if_pos h, if_pos h.symm]
    · rw [if_neg h, if_neg (Ne.symm h), mdel_eraseF f el]
theorem eraseF_sub (f : Int) : ∀ el : List (Int × Int), (eraseF f el).Sublist el
  | [] => .slnil
  | p :: el => by
    unfold eraseF
    split
    · exact List.sublist_cons_self _ _
    · exact (eraseF_sub f el).cons_cons p
theorem mdel_mem {α : Type} {m : List (Int × α)} {k : Int} {x : Int × α} (h : x ∈ mdel m k) : x ∈ m := by
  induction m with
  | nil => exact h
  | cons p m ih =>
    obtain ⟨k', v⟩ := p
    unfold mdel at h
    split at h
    · exact List.mem_cons_of_mem _ h
    · rcases List.mem_cons.1 h with rfl | h
      · simp
      · exact List.mem_cons_of_mem _ (ih h)
theorem getD_set {l : List Int} {i j : Nat} {v : Int} (hi : i < l.length) : (l.set i v).getD j 0 = if j = i then v else l.getD j 0 := by
  rw [List.getD_eq_getElem?_getD, List.getElem?_set, List.getD_eq_getElem?_getD]
  by_cases h : i = j
  · rw [if_pos h, if_pos hi, if_pos h.symm]; rfl
  · rw [if_neg h, if_neg (Ne.symm h)]
theorem CsRel.forget (h : CsRel el tg tm tags now) (f : Int) : CsRel (eraseF f el) (mdel tg f) tm (forgetTags tags f) now := by
  obtain ⟨k1, k2⟩ := h.keys
  refine ⟨h.uniq.mdel f, fun x hx => h.vals x (mdel_mem hx), elig_of _ _ (k1.sublist (eraseF_sub f el)) (fun p hp => by have := k2 p ((eraseF_sub f el).subset hp); omega), ?_, fun g => ?_, h.now, h.tm⟩
  · unfold forgetTags; split
    · rw [List.length_set]; exact h.len
    · exact h.len
  · have hg : tget (mdel tg f) g = if g = f then 0 else tget tg g := by
      unfold tget
      rw [mget_mdel h.uniq]
      split <;> rfl
    rw [hg, h.tag g]
    unfold forgetTags
    have hl := h.len
    by_cases hf : 0 ≤ f ∧ f < 32
    · rw [if_pos hf]
      by_cases hgr : 0 ≤ g ∧ g < 32
      · rw [if_pos hgr, if_pos hgr, getD_set (by omega)]
        by_cases e : g = f
        · rw [if_pos e, if_pos (by rw [e])]
        · rw [if_neg e, if_neg (by omega)]
      · rw [if_neg hgr, if_neg hgr]; split <;> rfl
    · rw [if_neg hf]
      by_cases e : g = f
      · rw [if_pos e, if_neg (by rw [e]; exact hf)]
      · rw [if_neg e]
end
end Go.Proofs.YtjpahfkchhnpoaaGreat

/- CompScript, the plain law: Eligible and Serve, on both sides. -/
namespace Go.Proofs.YtjpahfkchhnpoaaGreat
open Go.RowKit
open SP
section
variable {el tg : List (Int × Int)} {tm now : Int} {tags : List Int} {w : World} {R : List SP} {S : SP} {b : Nat} {reb : Int}

theorem atF_neg {f : Int} {el : List (Int × Int)} : atF f 0 el < 0 ↔ mget el f = none := by
  rcases atF_some (f := f) el 0 with ⟨h1, h2⟩ | ⟨i, wt, h1, h2, h3⟩
  · rw [h2]
    refine ⟨fun _ => ?_, fun _ => by omega⟩
    rw [mget_none]
    intro hm
    obtain ⟨p, hp, hpf⟩ := List.mem_map.1 hm
    exact h1 p hp hpf
  · rw [h2, h3]
    constructor
    · intro h; omega
    · intro h; cases h
theorem tagsE_get (el : List (Int × Int)) (now : Int) (i : Nat) : ∀ (L : List (Int × Int)) (tags : List Int), (∀ p ∈ L, 0 ≤ p.1 ∧ p.1 < 32) → tags.length = 32 →
    (tagsE el now L tags).getD i 0 = if (i : Int) ∈ L.map (·.1) ∧ atF (i : Int) 0 el < 0 then max (tags.getD i 0) now else tags.getD i 0
  | [], tags, _, _ => by simp [tagsE]
  | p :: L, tags, hp, hl => by
    have hpp := hp p (by simp)
    have hpl := fun q hq => hp q (List.mem_cons_of_mem p hq)
    unfold tagsE
    by_cases hneg : atF p.1 0 el < 0
    · rw [if_pos hneg, tagsE_get el now i L _ hpl (by rw [List.length_set]; exact hl), getD_set (by omega)]
      simp only [List.map_cons, List.mem_cons]
      by_cases he : (i : Int) = p.1
      · have hi : i = p.1.toNat := by omega
        rw [if_pos hi, ← hi]
        have hn : atF (i : Int) 0 el < 0 := by rw [he]; exact hneg
        rw [if_pos (show ((i : Int) = p.1 ∨ (i : Int) ∈ L.map (·.1)) ∧ atF (i : Int) 0 el < 0 from ⟨.inl he, hn⟩)]
        split <;> omega
      · have hi : ¬ i = p.1.toNat := by omega
        rw [if_neg hi]
        simp only [he, false_or]
    · rw [if_neg hneg, tagsE_get el now i L _ hpl hl]
      simp only [List.map_cons, List.mem_cons]
      by_cases he : (i : Int) = p.1
      · have hn : ¬ atF (i : Int) 0 el < 0 := by rw [he]; exact hneg
        rw [if_neg (fun h => hn h.2), if_neg (fun h => hn h.2)]
      · simp only [he, false_or]
theorem eligTg_vals (el : List (Int × Int)) (htm : 0 ≤ tm ∧ tm ≤ 1099511627776) : ∀ (L tg : List (Int × Int)), (∀ x ∈ tg, 0 ≤ x.2 ∧ x.2 ≤ 1099511627776) → ∀ x ∈ eligTg el tm L tg, 0 ≤ x.2 ∧ x.2 ≤ 1099511627776
  | [], _, h => h
  | p :: L, tg, h => by
    unfold eligTg
    refine eligTg_vals el htm L _ ?_
    split
    · exact h
    · exact mput_range h (by have := tget_range h p.1; omega)
theorem CsRel.elig {L : List (Int × Int)} (h : CsRel el tg tm tags now) (hL : eligBad (-1) L = false) : CsRel L (eligTg el tm L tg) tm (tagsE el now L tags) now ∧ eligEl L [] = L := by
  obtain ⟨k1, k2⟩ := elig_asc L (-1) hL
  refine ⟨⟨eligTg_uniq el tm L tg h.uniq, eligTg_vals el h.tm L tg h.vals, hL, by rw [tagsE_len]; exact h.len, fun f => ?_, h.now, h.tm⟩, eligEl_self (asc_uniq k1)⟩
  rw [eligTg_get, h.tag f]
  by_cases hf : 0 ≤ f ∧ f < 32
  · obtain ⟨i, rfl⟩ : ∃ i : Nat, f = (i : Int) := ⟨f.toNat, by omega⟩
    rw [if_pos hf, if_pos hf, Int.toNat_natCast, tagsE_get el now i L tags (fun p hp => by have := k2 p hp; omega) h.len, h.now]
    simp only [atF_neg]
  · rw [if_neg hf, if_neg hf, if_neg]
    rintro ⟨hm, _⟩
    obtain ⟨p, hp, rfl⟩ := List.mem_map.1 hm
    have := k2 p hp
    omega

/-! ### Serve -/
theorem CsRel.least_cons {p : Int × Int} {l' : List (Int × Int)} (h : CsRel el tg tm tags now) (he : el = p :: l') : leastF el tg = selL tags l' p.1 := by
  subst he
  exact h.least
theorem tags_map (h : ∀ f, tget tg f = if 0 ≤ f ∧ f < 32 then tags.getD f.toNat 0 else 0) (hl : tags.length = 32) {by_ : Int} (hb : 0 ≤ by_) :
    ∀ f, tget (lower by_ tg) f = if 0 ≤ f ∧ f < 32 then (tags.map fun t => max (t - by_) 0).getD f.toNat 0 else 0 := fun f => by
  rw [tget_lower by_ hb, h f]
  by_cases hf : 0 ≤ f ∧ f < 32
  · rw [if_pos hf, if_pos hf]
    have : f.toNat < tags.length := by omega
    rw [List.getD_eq_getElem?_getD, List.getD_eq_getElem?_getD, List.getElem?_map, List.getElem?_eq_getElem this]
    rfl
  · rw [if_neg hf, if_neg hf]; omega
theorem lower_vals {by_ : Int} (hb : 0 ≤ by_) (h : ∀ x ∈ tg, 0 ≤ x.2 ∧ x.2 ≤ 1099511627776) : ∀ x ∈ lower by_ tg, 0 ≤ x.2 ∧ x.2 ≤ 1099511627776 := fun x hx => by
  obtain ⟨y, hy, rfl⟩ := List.mem_map.1 hx
  have := h y hy
  show 0 ≤ max (y.2 - by_) 0 ∧ max (y.2 - by_) 0 ≤ _
  omega

/-- What both sides do at a call of Serve. -/
structure Both (el tg : List (Int × Int)) (tm : Int) (tags : List Int) (now reb f len er : Int) (tg' : List (Int × Int)) (tm' : Int) (tags' : List Int) (now' : Int) : Prop where
  rel : CsRel el tg' tm' tags' now'
  prog : ∀ (b : Nat) (w : World) (R : List SP), Own w (OrderR b reb el tg tm :: R) → Calls Tryz.prog 95 #[.pointer (some ⟨b, 0, none⟩), .int .i64 f, .int .i64 len] w (Ret (.int .i64 er) (OrderR b reb el tg' tm' :: R) w)
  ref : ∀ (S : SP) (b : Nat) (w : World) (R : List SP), Own w (RefR S b reb el tags now :: S :: R) → Calls Tryz.prog 75 #[.pointer (some ⟨b, 0, none⟩), .int .i64 f, .int .i64 len] w (Ret (.int .i64 er) (RefR S b reb el tags' now' :: S :: R) w)

theorem serve_both (h : CsRel el tg tm tags now) (reb f len : Int) : ∃ er tg' tm' tags' now', Both el tg tm tags now reb f len er tg' tm' tags' now' := by
  have hk := h.keyOk
  have hn := h.elen
  have hkeys := h.keys
  rcases atF_some (f := f) el 0 with ⟨h1, h2⟩ | ⟨i, wt, h1, h2, h3⟩
  · have hm : mget el f = none := atF_neg.1 (by rw [h2]; omega)
    have e1 : servE el tg f len = 6 := by unfold servE; rw [hm]; rfl
    refine ⟨6, tg, tm, tags, now, h, fun b w R o => ?_, fun S b w R o => refServe_none f len (by omega) h2 o⟩
    refine (serve_spec f len hk (by omega) h.uniq h.vals h.tm o).mono fun e w' hp => ?_
    unfold ServPost at hp
    rw [e1, if_pos (by decide)] at hp
    exact hp
  · rw [Nat.zero_add] at h2
    have hmem : (f, wt) ∈ el := List.mem_of_getElem? h1
    have hfr := hkeys.2 _ hmem
    dsimp only at hfr
    have hte : tget el f = wt := by unfold tget; rw [h3]; rfl
    have hs : (mget el f).isSome = true := by rw [h3]; rfl
    have eE : servE el tg f len = (servFin el tg f len).2 := if_pos hs
    have eF : servFin el tg f len = finF (tget tg f) len wt := by unfold servFin; rw [hte]
    obtain ⟨f0, rfl⟩ : ∃ f0 : Nat, f = (f0 : Int) := ⟨f.toNat, by omega⟩
    have hl := h.len
    obtain ⟨t, ht⟩ : ∃ t, tags[f0]? = some t := ⟨_, List.getElem?_eq_getElem (by omega)⟩
    have htg : tget tg (f0 : Int) = t := by rw [h.tag, if_pos ⟨hfr.1, hfr.2.1⟩, Int.toNat_natCast, List.getD_eq_getElem?_getD, ht]; rfl
    have htr := h.tval _ (List.mem_of_getElem? ht)
    rw [htg] at eF
    by_cases hb : badLW len wt
    · have e2 : finF t len wt = (0, 1) := by unfold finF; rw [if_pos (.inl hb)]
      refine ⟨1, tg, tm, tags, now, h, fun b w R o => ?_, fun S b w R o => refServe_bad (f0 : Int) len (by omega) h1 h2 hb o⟩
      refine (serve_spec (f0 : Int) len hk (by omega) h.uniq h.vals h.tm o).mono fun e w' hp => ?_
      unfold ServPost at hp
      rw [eE, eF, e2, if_pos (by decide)] at hp
      exact hp
    · have hno : ¬ (badLW len wt ∨ t < 0 ∨ 1099511627776 < t) := by rintro (h | h | h); exact hb h; omega; omega
      by_cases hr : 1099511627776 < t + cst len wt
      · have e2 : finF t len wt = (0, 2) := by unfold finF; rw [if_neg hno, if_pos hr]
        refine ⟨2, tg, tm, tags, now, h, fun b w R o => ?_, fun S b w R o => refServe_range f0 len (by omega) h1 h2 hb ht htr hr o⟩
        refine (serve_spec (f0 : Int) len hk (by omega) h.uniq h.vals h.tm o).mono fun e w' hp => ?_
        unfold ServPost at hp
        rw [eE, eF, e2, if_pos (by decide)] at hp
        exact hp
      · have e2 : finF t len wt = (t + cst len wt, 0) := by unfold finF; rw [if_neg hno, if_neg hr]
        have hcr : 45045 ≤ cst len wt := by unfold badLW at hb; exact (cst_range (by omega) (by omega) (by omega) (by omega)).1
        have eTg : servTg el tg (f0 : Int) len = mput tg (f0 : Int) (t + cst len wt) := by unfold servTg; rw [eF, e2]
        have eTm : servTm tg tm (f0 : Int) = max tm t := by unfold servTm; rw [htg]
        have htm := h.tm
        have h1r : CsRel el (mput tg (f0 : Int) (t + cst len wt)) (max tm t) (tags.set f0 (t + cst len wt)) (max now t) := by
          refine ⟨h.uniq.mput _ _, mput_range h.vals (by omega), h.el, by rw [List.length_set]; exact hl, fun g => ?_, by rw [h.now], by omega⟩
          rw [tget_mput, h.tag g]
          by_cases hg : 0 ≤ g ∧ g < 32
          · rw [if_pos hg, if_pos hg, getD_set (by omega)]
            by_cases e : g = (f0 : Int)
            · rw [if_pos e, if_pos (by omega)]
            · rw [if_neg e, if_neg (by omega)]
          · rw [if_neg hg, if_neg hg, if_neg (by omega)]
        obtain ⟨p, l', hel⟩ : ∃ p l', el = p :: l' := by
          cases el with
          | nil => simp at hmem
          | cons p l' => exact ⟨p, l', rfl⟩
        have hsm : selL (tags.set f0 (t + cst len wt)) l' p.1 ∈ el.map (·.1) := by
          rw [hel]
          rcases selL_mem (tags.set f0 (t + cst len wt)) l' p.1 with h | h
          · rw [h]; simp
          · simp only [List.map_cons, List.mem_cons]; exact .inr h
        obtain ⟨q, hq, hqe⟩ := List.mem_map.1 hsm
        have hqr := hkeys.2 q hq
        have hle2 : leastF el (mput tg (f0 : Int) (t + cst len wt)) = selL (tags.set f0 (t + cst len wt)) l' p.1 := h1r.least_cons hel
        obtain ⟨k, hkk⟩ : ∃ k : Nat, selL (tags.set f0 (t + cst len wt)) l' p.1 = (k : Int) := ⟨(selL (tags.set f0 (t + cst len wt)) l' p.1).toNat, by omega⟩
        rw [hkk] at hle2 hqe
        have hsel : refSel (tags.set f0 (t + cst len wt)) el = .tuple #[.int .i64 (k : Int), .int .i64 0] := by rw [hel]; show Value.tuple #[.int .i64 (selL _ l' p.1), .int .i64 0] = _; rw [hkk]
        obtain ⟨tk, htk⟩ : ∃ tk, (tags.set f0 (t + cst len wt))[k]? = some tk := ⟨_, List.getElem?_eq_getElem (by rw [List.length_set]; omega)⟩
        have htkg : tget (mput tg (f0 : Int) (t + cst len wt)) (k : Int) = tk := by rw [h1r.tag, if_pos (by omega), Int.toNat_natCast, List.getD_eq_getElem?_getD, htk]; rfl
        have htkr := h1r.tval _ (List.mem_of_getElem? htk)
        have eBy : servBy el tg tm (f0 : Int) len = min (max tm t) tk := by unfold servBy; rw [eTm, eTg, hle2, htkg]
        have eBy2 : min tk (max now t) = min (max tm t) tk := by rw [h.now]; omega
        have hby0 : 0 ≤ min (max tm t) tk := by omega
        have hrefs := fun (S : SP) (b : Nat) (w : World) (R : List SP) (o : Own w (RefR S b reb el tags now :: S :: R)) =>
          refServe_ok f0 len (by omega) (fun p hp => by have := hkeys.2 p hp; omega) h1 h2 hb ht htr h.tval (by rw [h.now]; exact htm) hr hsel htk o
        by_cases hlow : min (max tm t) tk < reb
        · refine ⟨0, _, _, _, _, h1r, fun b w R o => ?_, fun S b w R o => ?_⟩
          · refine (serve_spec (f0 : Int) len hk (by omega) h.uniq h.vals h.tm o).mono fun e w' hp => ?_
            unfold ServPost at hp
            rw [eE, eF, e2, if_neg (by simp), eBy, if_pos hlow, eTg, eTm] at hp
            exact hp
          · refine (hrefs S b w R o).mono fun e w' hp => ?_
            unfold RefServ2 at hp
            rw [eBy2, if_pos hlow] at hp
            exact hp
        · refine ⟨0, lower (min (max tm t) tk) (mput tg (f0 : Int) (t + cst len wt)), max tm t - min (max tm t) tk, (tags.set f0 (t + cst len wt)).map (fun t' => max (t' - min (max tm t) tk) 0), max now t - min (max tm t) tk, ⟨h1r.uniq.lower _, lower_vals hby0 h1r.vals, h.el, by rw [List.length_map]; exact h1r.len, tags_map h1r.tag h1r.len hby0, by rw [h.now], by omega⟩, fun b w R o => ?_, fun S b w R o => ?_⟩
          · refine (serve_spec (f0 : Int) len hk (by omega) h.uniq h.vals h.tm o).mono fun e w' hp => ?_
            unfold ServPost at hp
            rw [eE, eF, e2, if_neg (by simp), eBy, if_neg hlow, eTg, eTm] at hp
            exact hp
          · refine (hrefs S b w R o).mono fun e w' hp => ?_
            unfold RefServ2 at hp
            rw [eBy2, if_neg hlow] at hp
            exact hp
end
end Go.Proofs.YtjpahfkchhnpoaaGreat

/- CompScript: the walk of 'same'. -/
namespace Go.Proofs.YtjpahfkchhnpoaaGreat
open Go.RowKit
open SP
section
variable {el tg : List (Int × Int)} {tm now : Int} {tags : List Int} {w w' : World} {R : List SP} {S : SP} {b rb : Nat} {reb : Int}

theorem CsRel.tagEq (h : CsRel el tg tm tags now) (f : Int) : (if f < 0 ∨ 32 ≤ f then 0 else tags.getD f.toNat 0) = tget tg f := by
  rw [h.tag f]
  by_cases hf : 0 ≤ f ∧ f < 32
  · rw [if_pos hf, if_neg (by omega)]
  · rw [if_neg hf, if_pos (by omega)]
theorem CsRel.selP (h : CsRel el tg tm tags now) : ∃ x y : Int, selV el tg = .tuple #[.int .i64 x, .int .i64 y] ∧ refSel tags el = .tuple #[.int .i64 x, .int .i64 y] ∧ (y = 0 ∨ y = 5) := by
  have he := h.sel
  cases el with
  | nil => exact ⟨0, 5, he, rfl, .inr rfl⟩
  | cons p l => exact ⟨_, 0, he, rfl, .inl rfl⟩

def SameRel (b rb : Nat) (reb : Int) (el tg : List (Int × Int)) (tm : Int) (tags : List Int) (now : Int) (S : SP) (R : List SP) (w : World) (v : Value) (wr : World) : Prop :=
  ∃ f : Int, v = .int .i64 f ∧ -1 ≤ f ∧ f ≤ 8 ∧ Own wr (OrderR b reb el tg tm :: RefR S rb reb el tags now :: S :: R) ∧ Calm w wr

end
end Go.Proofs.YtjpahfkchhnpoaaGreat

/- CompScript: the walk of 'act'. -/
namespace Go.Proofs.YtjpahfkchhnpoaaGreat
open Go.RowKit
open SP
section
variable {el tg : List (Int × Int)} {tm now : Int} {tags : List Int} {W w w' : World} {R : List SP} {S : SP} {b rb cb : Nat} {reb : Int}

def ActPost (b rb : Nat) (reb : Int) (S : SP) (R : List SP) (w : World) (e : Ending) (w' : World) : Prop :=
  ∃ S' el tg tm tags now, PExt S S' ∧ CsRel el tg tm tags now ∧ Ret (.bool true) (OrderR b reb el tg tm :: RefR S' rb reb el tags now :: S' :: R) w e w'

/-- Eligible on both sides. -/
theorem elig_both (h : CsRel el tg tm tags now) {A : SP} {a : Option Addr} {n c : Nat} {L : List (Int × Int)} (hA : PartsAt A a L) (hn : n = L.length) (hn2 : n ≤ 1000) : ∃ er el' tg' tags', CsRel el' tg' tm tags' now ∧
    (∀ (b : Nat) (w : World) (R : List SP), Own w (A :: OrderR b reb el tg tm :: R) → Calls Tryz.prog 60 #[.pointer (some ⟨b, 0, none⟩), .slice a n c] w (Ret (.int .i64 er) (A :: OrderR b reb el' tg' tm :: R) w)) ∧
    (∀ (S : SP) (b : Nat) (w : World) (R : List SP), Own w (A :: RefR S b reb el tags now :: S :: R) → Calls Tryz.prog 98 #[.pointer (some ⟨b, 0, none⟩), .slice a n c] w
      (fun e w' => ∃ S', PExt S S' ∧ Ret (.int .i64 er) (A :: RefR S' b reb el' tags' now :: S' :: R) w e w')) := by
  have hlen := h.elen
  cases hb : eligBad (-1) L with
  | true =>
    refine ⟨1, el, tg, tags, h, fun b w R o => ?_, fun S b w R o => ?_⟩
    · refine (eligibleG_spec A a n c L hA hn hn2 o).mono fun e w' hp => ?_
      unfold EligRes at hp
      rw [if_pos hb] at hp
      exact hp
    · refine (refElig_spec A a n c L hA hn hn2 (by omega) h.tval (by rw [h.now]; exact h.tm) o).mono fun e w' hp => ?_
      unfold RefElig at hp
      rw [if_pos hb] at hp
      exact ⟨S, PExt.refl S, hp⟩
  | false =>
    obtain ⟨h1, h2⟩ := h.elig hb
    refine ⟨0, L, _, _, h1, fun b w R o => ?_, fun S b w R o => ?_⟩
    · refine (eligibleG_spec A a n c L hA hn hn2 o).mono fun e w' hp => ?_
      unfold EligRes at hp
      rw [if_neg (by rw [hb]; simp), h2] at hp
      exact hp
    · refine (refElig_spec A a n c L hA hn hn2 (by omega) h.tval (by rw [h.now]; exact h.tm) o).mono fun e w' hp => ?_
      unfold RefElig at hp
      rw [if_neg (by rw [hb]; simp)] at hp
      exact hp
/-- Forget on both sides. -/
theorem forget_ref (h : CsRel el tg tm tags now) (f : Int) (o : Own w (RefR S b reb el tags now :: S :: R)) :
    Calls Tryz.prog 49 #[.pointer (some ⟨b, 0, none⟩), .int .i64 f] w (RefForg b reb now (eraseF f el) (forgetTags tags f) S R w) := by
  have hlen := h.elen
  rcases atF_some (f := f) el 0 with ⟨h1, h2⟩ | ⟨i, wt, h1, h2, h3⟩
  · rw [eraseF_none el h1]
    exact (refForget_none f (by omega) h2 o).mono fun e w' hp => ⟨S, PExt.refl S, hp⟩
  · rw [Nat.zero_add] at h2
    have hi := (List.getElem?_eq_some_iff.1 h1).1
    have hr := h.keys.2 _ (List.mem_of_getElem? h1)
    dsimp only at hr
    obtain ⟨f0, rfl⟩ : ∃ f0 : Nat, f = (f0 : Int) := ⟨f.toNat, by omega⟩
    have e1 : eraseF (f0 : Int) el = el.take i ++ el.drop (i + 1) := eraseF_at el 0 i (by rw [h2]; simp) hi
    have e2 : forgetTags tags (f0 : Int) = tags.set f0 0 := by unfold forgetTags; rw [if_pos (by omega), Int.toNat_natCast]
    rw [e1, e2]
    exact refForget_some f0 i (by omega) (by omega) hi h2 o

theorem flat_part_set : ∀ (L : List (Int × Int)) (i : Nat) (p : Int × Int), i < L.length → ((flat part L).set (i * 2) (.int .i64 p.1)).set (i * 2 + 1) (.int .i64 p.2) = flat part (L.set i p)
  | [], _, _, h => by simp at h
  | q :: L, 0, p, _ => rfl
  | q :: L, i + 1, p, h => by
    have ih := flat_part_set L i p (by simpa using h)
    have e1 : flat part (q :: L) = .int .i64 q.1 :: .int .i64 q.2 :: flat part L := rfl
    have e2 : flat part ((q :: L).set (i + 1) p) = .int .i64 q.1 :: .int .i64 q.2 :: flat part (L.set i p) := rfl
    rw [e1, e2, ← ih]
    have e3 : (i + 1) * 2 = i * 2 + 1 + 1 := by omega
    rw [e3]
    rfl
def badParts : List (Int × Int) := [(-1, 1), (0, 0), (32, 1), (3, 17)]

def ActMid (b rb cb : Nat) (reb : Int) (el tg : List (Int × Int)) (tm : Int) (tags : List Int) (now : Int) (S : SP) (W : World) (N : Nat) (R : List SP) (w : World) (v : Value) (wc : World) : Prop :=
  ∃ (a : Option Addr) (n c : Nat) (L : List (Int × Int)), v = .slice a n c ∧ n = L.length ∧ n ≤ 5 ∧ Own wc (slc 145 2 a n c (flat part L) :: OrderR b reb el tg tm :: RefR S rb reb el tags now :: S :: Ch W cb N :: old W :: R) ∧ Calm w wc

end
end Go.Proofs.YtjpahfkchhnpoaaGreat

/- The reference of cifq: its block; the counts set to 0. -/
namespace Go.Proofs.YtjpahfkchhnpoaaGreat
open Go.RowKit
open SP
section
variable {w w' : World} {R : List SP} {b rp lp cp xp : Nat} {num den reb : Int} {P S : SP} {D : List Tg} {cs : List (Int × Int)}

def cnC (p : Int × Int) : List Value := [.int .i64 p.1, .int .i64 p.2]
theorem cnC_len (p : Int × Int) : (cnC p).length = 2 := rfl
/-- The cells of the reference's block. -/
def kqCells (num den reb : Int) (rp lp cp xp : Nat) (cs : List (Int × Int)) : List Value :=
  [.int .i64 num, .int .i64 den, .int .i64 reb, .pointer (some ⟨rp, 0, none⟩), .pointer (some ⟨lp, 0, none⟩), .pointer (some ⟨cp, 0, none⟩), .pointer (some ⟨xp, 0, none⟩)] ++ flat cnC cs
abbrev KqC (b : Nat) (num den reb : Int) (rp lp cp xp : Nat) (cs : List (Int × Int)) : SP := cel b 54 (kqCells num den reb rp lp cp xp cs)
theorem kq_cnt {i j : Nat} {p : Int × Int} (h : cs[i]? = some p) (hj : j < 2) : (kqCells num den reb rp lp cp xp cs)[7 + (i * 2 + j)]? = (cnC p)[j]? := by
  unfold kqCells
  rw [List.getElem?_append_right (by simp)]
  show (flat cnC cs)[7 + (i * 2 + j) - 7]? = _
  rw [show 7 + (i * 2 + j) - 7 = i * 2 + j by omega]
  exact flat_get cnC_len cs i j p h hj
theorem kq_set {i j : Nat} {p p' : Int × Int} {v : Value} (h : cs[i]? = some p) (hj : j < 2) (hv : cnC p' = (cnC p).set j v) :
    (kqCells num den reb rp lp cp xp cs).set (7 + (i * 2 + j)) v = kqCells num den reb rp lp cp xp (cs.set i p') := by
  unfold kqCells
  rw [List.set_append_right _ _ (by simp)]
  show _ ++ (flat cnC cs).set (7 + (i * 2 + j) - 7) v = _
  rw [show 7 + (i * 2 + j) - 7 = i * 2 + j by omega, ← flat_set cnC_len cs i j p p' v h hj hv]
/-- The counts of the flows that lead. -/
def stlOk (D : List Tg) (cs cs' : List (Int × Int)) (k : Nat) : Prop := cs'.length = 32 ∧ ∀ f : Nat, f < 32 → cs'.getD f (0, 0) = if f < k ∧ ¬ lagO D (f : Int) < 0 then (0, 0) else cs.getD f (0, 0)
def StlRel (b : Nat) (num den reb : Int) (rp lp cp xp : Nat) (D : List Tg) (cs : List (Int × Int)) (P : SP) (R : List SP) (w : World) (v : Value) (wr : World) : Prop :=
  ∃ (k : Nat) (cs' : List (Int × Int)), v = .int .i64 (k : Int) ∧ k ≤ 32 ∧ stlOk D cs cs' k ∧ Own wr (KqC b num den reb rp lp cp xp cs' :: LedR P lp D :: P :: R) ∧ Calm w wr
def StlPost (b : Nat) (num den reb : Int) (rp lp cp xp : Nat) (D : List Tg) (cs : List (Int × Int)) (P : SP) (R : List SP) (w : World) (e : Ending) (w' : World) : Prop :=
  ∃ cs', stlOk D cs cs' 32 ∧ Ret (.tuple #[]) (KqC b num den reb rp lp cp xp cs' :: LedR P lp D :: P :: R) w e w'
theorem stlOk.start (h : cs.length = 32) : stlOk D cs cs 0 := ⟨h, fun f hf => by rw [if_neg (by omega)]⟩
theorem stlOk.keep {cs' : List (Int × Int)} {k : Nat} (h : stlOk D cs cs' k) (hl : lagO D (k : Int) < 0) : stlOk D cs cs' (k + 1) :=
  ⟨h.1, fun f hf => by
    rw [h.2 f hf]
    by_cases e : f = k
    · subst e; rw [if_neg (by omega), if_neg (fun x => x.2 hl)]
    · by_cases e2 : f < k ∧ ¬ lagO D (f : Int) < 0
      · rw [if_pos e2, if_pos ⟨by omega, e2.2⟩]
      · rw [if_neg e2, if_neg (fun x => e2 ⟨by omega, x.2⟩)]⟩
theorem stlOk.zero {cs' : List (Int × Int)} {k : Nat} (h : stlOk D cs cs' k) (hk : k < 32) (hl : ¬ lagO D (k : Int) < 0) : stlOk D cs (cs'.set k (0, 0)) (k + 1) :=
  ⟨by rw [List.length_set]; exact h.1, fun f hf => by
    rw [List.getD_eq_getElem?_getD, List.getElem?_set]
    by_cases e : k = f
    · subst e
      rw [if_pos rfl, if_pos (by rw [h.1]; exact hk), if_pos ⟨by omega, hl⟩]; rfl
    · rw [if_neg e, ← List.getD_eq_getElem?_getD, h.2 f hf]
      by_cases e2 : f < k ∧ ¬ lagO D (f : Int) < 0
      · rw [if_pos e2, if_pos ⟨by omega, e2.2⟩]
      · rw [if_neg e2, if_neg (fun x => e2 ⟨by omega, x.2⟩)]⟩
set_option maxHeartbeats 3200000 in
set_option maxRecDepth 100000 in
theorem settle_spec (hcs : cs.length = 32) (hD : D.length ≤ 1000) (o : Own w (KqC b num den reb rp lp cp xp cs :: LedR P lp D :: P :: R)) :
    Calls Tryz.prog 50 #[.pointer (some ⟨b, 0, none⟩)] w (StlPost b num den reb rp lp cp xp D cs P R w) := by
  have hT : StlRel b num den reb rp lp cp xp D cs P R w (.int .i64 0) w := ⟨0, cs, rfl, by omega, stlOk.start hcs, o, Calm.refl w⟩
  clear o
  go_enter Tryz.func50, Tryz.ntmps50
  go_wp2
  go_loopw [2] (fun v wr => StlRel b num den reb rp lp cp xp D cs P R w v wr) (fun v _ => 32 - (Lib.intOf v).toNat)
  case atStart => exact hT
  case round =>
    clear hT
    obtain ⟨k, cs', rfl, hk, hst, oR, kR⟩ := hrel
    by_cases hlt : k < 32
    · have c4 := oR.cell (T := 54) (vs := kqCells num den reb rp lp cp xp cs') 4 (v := .pointer (some ⟨lp, 0, none⟩)) rfl
      have hlag := ledLag_spec (w := wr) (k : Int) hD (oR.re [1, 2])
      obtain ⟨z, hz⟩ := lagV_eq D (k : Int)
      rw [hz] at hlag
      obtain ⟨⟨p1, p2⟩, hp⟩ : ∃ p, cs'[k]? = some p := ⟨_, List.getElem?_eq_getElem (by rw [hst.1]; exact hlt)⟩
      have HST := Lib.hid hst
      have hfz := oR.frozen
      have hbl := oR.celLt
      have d0 := Own.cell oR (7 + (k * 2 + 0)) (v := .int .i64 p1) (by rw [kq_cnt hp (by omega)]; rfl)
      have d1 := Own.cell oR (7 + (k * 2 + 1)) (v := .int .i64 p2) (by rw [kq_cnt hp (by omega)]; rfl)
      have oS := (oR.setCell (7 + (k * 2 + 0)) (.int .i64 0)).setCell (7 + (k * 2 + 1)) (.int .i64 0)
      have hs1 := kq_set (num := num) (den := den) (reb := reb) (rp := rp) (lp := lp) (cp := cp) (xp := xp) (j := 0) (p' := (0, p2)) (v := .int .i64 0) hp (by omega) rfl
      have hp2 : (cs'.set k (0, p2))[k]? = some (0, p2) := by rw [List.getElem?_set_self (by rw [hst.1]; exact hlt)]
      have hs2 := kq_set (num := num) (den := den) (reb := reb) (rp := rp) (lp := lp) (cp := cp) (xp := xp) (j := 1) (p' := (0, 0)) (v := .int .i64 0) hp2 (by omega) rfl
      rw [List.set_set] at hs2
      rw [hs1, hs2] at oS
      rw [Nat.add_zero] at d0 oS
      rw [show 7 + (k * 2 + 1) = 7 + k * 2 + 1 by omega] at d1 oS
      clear hst hz hp hp2 hs1 hs2
      obtain ⟨lg, hlg⟩ : ∃ lg, lagO D (k : Int) = lg := ⟨_, rfl⟩
      rw [hlg] at hlag
      by_cases hneg : lg < 0
      · have HK := Lib.hid (HST.out.keep (by rw [hlg]; exact hneg))
        have hd : decide (0 ≤ lg) = false := decide_eq_false (by omega)
        clear hlg
        go_wp2_with fail
        refine hlag.mono ?_
        rintro e1 w1 ⟨rfl, rfl⟩
        go_wp2
        go_roundw
        case rel => exact ⟨k + 1, cs', by go_num, by omega, HK.out, oR, kR⟩
        case measure => simp [Lib.intOf]; omega
      · have HK := Lib.hid (HST.out.zero hlt (by rw [hlg]; exact hneg))
        have hd : decide (0 ≤ lg) = true := decide_eq_true (by omega)
        clear hlg
        go_wp2_with fail
        refine hlag.mono ?_
        rintro e1 w1 ⟨rfl, rfl⟩
        go_wp2
        go_roundw
        case rel => exact ⟨k + 1, _, by go_num, by omega, HK.out, oS, qcalm_set (qcalm_set kR)⟩
        case measure => simp [Lib.intOf]; omega
    · have hk32 : k = 32 := by omega
      have hd : decide ((k : Int) < 32) = false := decide_eq_false (by omega)
      have HK := Lib.hid (show stlOk D cs cs' 32 by rw [← hk32]; exact hst)
      clear hk32
      go_wp2
      go_end0
      exact ⟨cs', HK.out, rfl, oR, kR⟩
end
end Go.Proofs.YtjpahfkchhnpoaaGreat

/- Drawn regions whose operations all give values that can be named beforehand. -/
namespace Go.Proofs.YtjpahfkchhnpoaaGreat
open Go.RowKit
open SP
/-- What has been done gives these values. -/
def Vals (f : Nat → Value) (L : Nat → Bool) (v : Nat → Value) : Prop := ∀ i, L i = true → v i = f i
theorem Vals.no {f : Nat → Value} {v : Nat → Value} : Vals f (fun _ => false) v := fun _ h => (Bool.false_ne_true h).elim
theorem Vals.put {f : Nat → Value} {L : Nat → Bool} {v : Nat → Value} (h : Vals f L v) (i : Nat) {x : Value} (hx : x = f i) : Vals f (dIns L i) (dUpd v i x) := fun j hj => by
  unfold dUpd
  split
  · rename_i e; rw [e]; exact hx
  · rename_i e
    unfold dIns at hj
    rw [if_neg e] at hj
    exact h j hj
/-- The same, where of some nothing is said. -/
def OVals (f : Nat → Option Value) (L : Nat → Bool) (v : Nat → Value) : Prop := ∀ i x, f i = some x → L i = true → v i = x
theorem OVals.no {f : Nat → Option Value} {v : Nat → Value} : OVals f (fun _ => false) v := fun _ _ _ h => (Bool.false_ne_true h).elim
theorem OVals.put {f : Nat → Option Value} {L : Nat → Bool} {v : Nat → Value} (h : OVals f L v) (i : Nat) {x : Value} (hx : ∀ y, f i = some y → x = y) : OVals f (dIns L i) (dUpd v i x) := fun j y hy hj => by
  unfold dUpd
  split
  · rename_i e; subst e; exact hx y hy
  · rename_i e
    unfold dIns at hj
    rw [if_neg e] at hj
    exact h j y hy hj
theorem some_eq {x y : Value} (h : some x = some y) : x = y := Option.some.inj h
end Go.Proofs.YtjpahfkchhnpoaaGreat

/- Drawn regions with guards that are decided beforehand. -/
namespace Go.Proofs.YtjpahfkchhnpoaaGreat
open Go.RowKit
open SP
section
variable {P : Program} {ops : Array Oper} {Q : Exit → Act → World → Prop}
theorem wanted_at {A0 a : Act} {L : Nat → Bool} {v : Nat → Value} {o : Oper} {j : Nat} {want b : Bool} {t : Nat} (hA : Agree A0 ops L v a) (hg : o.guard = some (j, want)) (ht : (ops[j]?).bind (·.dst) = some t) (hl : L j = true) (hv : v j = .bool b) :
    Region.wanted o (yielded ops a.tmps) = (b == want) := by
  have h := hA.get j hl ht
  rw [hv] at h
  unfold Region.wanted
  rw [hg]
  show (yielded ops a.tmps j == some want) = _
  unfold yielded
  rw [ht]
  simp only [Option.bind_some]
  cases hx : a.tmps[t]? with
  | none => rw [hx] at h; cases h
  | some x =>
    rw [hx] at h
    have : x = .bool b := h
    subst this
    simp
theorem DrawStep.run {A0 : Act} {Inv : (Nat → Bool) → (Nat → Value) → World → Prop} {i : Nat} {o : Oper} {j : Nat} {want : Bool} {t : Nat} (hg : o.guard = some (j, want)) (ht : (ops[j]?).bind (·.dst) = some t)
    (hj : (o.after.any fun e => decide (e.on = j) && Region.binds .any e) = true) (hv : ∀ L v w, Inv L v w → L j = true → v j = .bool want)
    (h : ∀ (L : Nat → Bool) (v : Nat → Value) (a : Act) (w : World), L i = false → (∀ e ∈ o.after, Region.binds .any e = true → L e.on = true) → Agree A0 ops L v a → Inv L v w →
      ∀ K' : Act → World → Prop, Shut (∀ x w', Inv (dIns L i) (dUpd v i x) w' → K' (a.put o.dst x) w') → Oper.wp P o a w K' Q) : DrawStep P ops Q A0 Inv i o := by
  intro L v a w h1 h2 h3 h4 K' hK
  rw [Array.any_eq_true'] at hj
  obtain ⟨e, he, hb⟩ := hj
  rw [Bool.and_eq_true, decide_eq_true_eq] at hb
  have hl : L j = true := hb.1 ▸ h2 e he hb.2
  rw [if_pos (by rw [wanted_at h3 hg ht hl (hv L v w h4 hl)]; simp)]
  exact h L v a w h1 h2 h3 h4 K' hK
theorem DrawStep.skip {A0 : Act} {Inv : (Nat → Bool) → (Nat → Value) → World → Prop} {i : Nat} {o : Oper} {j : Nat} {want : Bool} {t : Nat} (hg : o.guard = some (j, want)) (ht : (ops[j]?).bind (·.dst) = some t)
    (hj : (o.after.any fun e => decide (e.on = j) && Region.binds .any e) = true) (hv : ∀ L v w, Inv L v w → L j = true → v j = .bool (!want))
    (hi : ∀ L v w, L i = false → Inv L v w → Inv (dIns L i) (dUpd v i undef) w) : DrawStep P ops Q A0 Inv i o := by
  intro L v a w h1 h2 h3 h4 K' hK
  rw [Array.any_eq_true'] at hj
  obtain ⟨e, he, hb⟩ := hj
  rw [Bool.and_eq_true, decide_eq_true_eq] at hb
  have hl : L j = true := hb.1 ▸ h2 e he hb.2
  rw [if_neg (by rw [wanted_at h3 hg ht hl (hv L v w h4 hl)]; cases want <;> decide)]
  exact hK.out _ _ (hi L v w h1 h4)
theorem DrawStep.skipU {A0 : Act} {Inv : (Nat → Bool) → (Nat → Value) → World → Prop} {i : Nat} {o : Oper} {j : Nat} {want : Bool} {t : Nat} (hg : o.guard = some (j, want)) (ht : (ops[j]?).bind (·.dst) = some t)
    (hj : (o.after.any fun e => decide (e.on = j) && Region.binds .any e) = true) (hv : ∀ L v w, Inv L v w → L j = true → v j = undef)
    (hi : ∀ L v w, L i = false → Inv L v w → Inv (dIns L i) (dUpd v i undef) w) : DrawStep P ops Q A0 Inv i o := by
  intro L v a w h1 h2 h3 h4 K' hK
  rw [Array.any_eq_true'] at hj
  obtain ⟨e, he, hb⟩ := hj
  rw [Bool.and_eq_true, decide_eq_true_eq] at hb
  have hl : L j = true := hb.1 ▸ h2 e he hb.2
  have hw : Region.wanted o (yielded ops a.tmps) = false := by
    have h := h3.get j hl ht
    rw [hv L v w h4 hl] at h
    unfold Region.wanted
    rw [hg]
    show (yielded ops a.tmps j == some want) = _
    unfold yielded
    rw [ht]
    simp only [Option.bind_some]
    cases hx : a.tmps[t]? with
    | none => rfl
    | some x =>
      rw [hx] at h
      have : x = undef := h
      subst this
      rfl
  rw [if_neg (by rw [hw]; decide)]
  exact hK.out _ _ (hi L v w h1 h4)
end
end Go.Proofs.YtjpahfkchhnpoaaGreat

/- Drawn regions that make one struct and store it last. -/
namespace Go.Proofs.YtjpahfkchhnpoaaGreat
open Go.RowKit
open SP
/-- The struct of a region: not made yet, made (cells zs), stored (cells ys). -/
def Pb (la ls : Bool) (v : Value) (T : TypeId) (zs ys : List Value) : SP :=
  st [pu (ls = true → la = true), if la = true then ex fun (g : Nat) => st [pu (v = .pointer (some ⟨g, 0, none⟩)), cel g T (if ls = true then ys else zs)] else pu True]
section
variable {w w' : World} {R : List SP} {v : Value} {T : TypeId} {zs ys : List Value}
theorem Pb.no (o : Own w R) : Own w (Pb false false v T zs ys :: R) := by
  unfold Pb
  rw [if_neg Bool.false_ne_true]
  exact Own.st.2 (Own.pu.2 ⟨fun h => h, Own.pu.2 ⟨trivial, o⟩⟩)
theorem Pb.new {ls : Bool} (o : Own w (Pb false ls v T zs ys :: R)) : Own (w.alloc (.cells zs.toArray T)) (Pb true ls (.pointer (some ⟨w.heap.size, 0, none⟩)) T zs ys :: R) := by
  unfold Pb at o ⊢
  obtain ⟨h, o⟩ := Own.pu.1 (Own.st.1 o)
  have hls : ls = false := by
    cases ls with
    | false => rfl
    | true => exact absurd (h rfl) Bool.false_ne_true
  subst hls
  rw [if_neg Bool.false_ne_true] at o
  rw [if_pos rfl, if_neg Bool.false_ne_true]
  exact Own.st.2 (Own.pu.2 ⟨fun _ => rfl, Own.ex.2 ⟨w.heap.size, Own.st.2 (Own.pu.2 ⟨rfl, (Own.pu.1 o).2.alloc _⟩)⟩⟩)
theorem Pb.val (o : Own w (Pb true false v T zs ys :: R)) : ∃ g : Nat, v = .pointer (some ⟨g, 0, none⟩) ∧ Own w (cel g T zs :: R) := by
  unfold Pb at o
  obtain ⟨_, o⟩ := Own.pu.1 (Own.st.1 o)
  rw [if_pos rfl, if_neg Bool.false_ne_true] at o
  obtain ⟨g, o⟩ := Own.ex.1 o
  obtain ⟨h, o⟩ := Own.pu.1 (Own.st.1 o)
  exact ⟨g, h, o⟩
theorem Pb.set {g : Nat} (o : Own w (cel g T ys :: R)) : Own w (Pb true true (.pointer (some ⟨g, 0, none⟩)) T zs ys :: R) := by
  unfold Pb
  rw [if_pos rfl, if_pos rfl]
  exact Own.st.2 (Own.pu.2 ⟨fun _ => rfl, Own.ex.2 ⟨g, Own.st.2 (Own.pu.2 ⟨rfl, o⟩)⟩⟩)
theorem Pb.put {g : Nat} {l : Bool} (o : Own w (cel g T ys :: R)) (hl : l = true) (hv : v = .pointer (some ⟨g, 0, none⟩)) : Own w (Pb l true v T zs ys :: R) := by
  subst hl
  subst hv
  exact Pb.set o
theorem Pb.got (o : Own w (Pb true true v T zs ys :: R)) : ∃ g : Nat, v = .pointer (some ⟨g, 0, none⟩) ∧ Own w (cel g T ys :: R) := by
  unfold Pb at o
  obtain ⟨_, o⟩ := Own.pu.1 (Own.st.1 o)
  rw [if_pos rfl, if_pos rfl] at o
  obtain ⟨g, o⟩ := Own.ex.1 o
  obtain ⟨h, o⟩ := Own.pu.1 (Own.st.1 o)
  exact ⟨g, h, o⟩
end
end Go.Proofs.YtjpahfkchhnpoaaGreat
