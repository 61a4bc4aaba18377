/- Both references: their relation, and each operation on both. -/
import Derived.Test.YtnandakoigmknaaR12k
import Derived.Test.YtnandakoigmknaaR12h
import Derived.Test.YtnandakoigmknaaSfqL
namespace Go.Proofs.Ytnandakoigmknaa
open Go.RowKit
open SP
section
variable {P : SP} {W w w' : World} {R : List SP} {b : Nat} {at_ now aw : Int} {L O : List Tg}
set_option maxHeartbeats 3200000 in
set_option maxRecDepth 100000 in
theorem joinT_bad (f wt : Int) (hb : f < 0 ∨ 32 ≤ f ∨ wt < 1 ∨ 16 < wt) :
    Calls Try.prog 60 #[.pointer (some ⟨b, 0, none⟩), .int .i64 f, .int .i64 wt] w (IsRet (.int .i64 1) w) := by
  have hgw := goodW_spec wt w
  by_cases h1 : f < 0
  · clear hb hgw
    go_enter Try.func60, Try.ntmps60
    go_wp2
    go_ret
    exact ⟨rfl, rfl⟩
  · by_cases h2 : 32 ≤ f
    · clear hb hgw
      go_enter Try.func60, Try.ntmps60
      go_wp2
      go_ret
      exact ⟨rfl, rfl⟩
    · have hd : decide (1 ≤ wt ∧ wt ≤ 16) = false := by
        rw [decide_eq_false_iff_not]; omega
      rw [hd] at hgw
      clear hb hd
      go_enter Try.func60, Try.ntmps60
      go_wp2_with fail
      refine hgw.mono ?_
      rintro e1 w1 ⟨rfl, rfl⟩
      go_wp2
      go_ret
      exact ⟨rfl, rfl⟩
set_option maxHeartbeats 3200000 in
set_option maxRecDepth 100000 in
theorem joinT_dup (f wt : Int) (hf : 0 ≤ f ∧ f < 32) (hw : 1 ≤ wt ∧ wt ≤ 16) {t : Tg} (hn : fget L f = some t) (hL : L.length ≤ 1000) (o : Own w (RefT P b at_ L O now aw :: P :: R)) :
    Calls Try.prog 60 #[.pointer (some ⟨b, 0, none⟩), .int .i64 f, .int .i64 wt] w (IsRet (.int .i64 7) w) := by
  have hat := index_spec f hL o
  obtain ⟨i, hi, hai⟩ := idxT_some 0 L hn
  rw [hai, Nat.zero_add] at hat
  have hgw := goodW_spec wt w
  have hdw : decide (1 ≤ wt ∧ wt ≤ 16) = true := by simp; exact hw
  rw [hdw] at hgw
  obtain ⟨hf0, hf1⟩ := hf
  clear hdw hn hw hi hai
  go_enter Try.func60, Try.ntmps60
  go_wp2_with fail
  refine hgw.mono ?_
  rintro e1 w1 ⟨rfl, rfl⟩
  go_wp2_with fail
  refine hat.mono ?_
  rintro e2 w2 ⟨rfl, rfl⟩
  go_wp2
  go_ret
  exact ⟨rfl, rfl⟩
end

/-- Behind N acts. -/
structure RelT (N : Nat) (S : St) (O : List Tg) : Prop where
  ok : StOk S
  r : R12 S O
  ol : O.length ≤ N
  aw0 : 0 ≤ S.aw
  aw1 : S.aw ≤ N * 1099511627776
theorem RelT.start : RelT 0 St0 [] := ⟨StOk.start, R12.start, by simp, by simp [St0], by simp [St0]⟩
theorem RelT.next {N : Nat} {S : St} {O : List Tg} (h : RelT N S O) : RelT (N + 1) S O := ⟨h.ok, h.r, by have := h.ol; omega, h.aw0, by have := h.aw1; push_cast; omega⟩

/-- One operation on both. -/
structure BothT (fp fr : Nat) (args : Value → Array Value) (reb er : Int) (S : St) (O : List Tg) (S' : St) (O' : List Tg) : Prop where
  prog : ∀ (b : Nat) (w : World) (R : List SP), Own w (SfqR b reb S :: R) → Calls Try.prog fp (args (.pointer (some ⟨b, 0, none⟩))) w (Ret (.int .i64 er) (SfqR b reb S' :: R) w)
  ref : ∀ (P : SP) (b : Nat) (w : World) (R : List SP), Own w (RefT P b reb S.L O S.tm S.aw :: P :: R) → Calls Try.prog fr (args (.pointer (some ⟨b, 0, none⟩))) w (SetWT b reb S'.L O' S'.tm S'.aw P R w er)

section
variable {S : St} {O : List Tg} {N : Nat}
theorem setWT_same {b : Nat} {at_ er now aw : Int} {L : List Tg} {P : SP} {R : List SP} {w : World} (o : Own w (RefT P b at_ L O now aw :: P :: R)) {e : Ending} {w' : World} (h : IsRet (.int .i64 er) w e w') : SetWT b at_ L O now aw P R w er e w' := by
  obtain ⟨rfl, rfl⟩ := h
  exact ⟨P, PExtT.refl P, rfl, o, Calm.refl _⟩
theorem join_both (h : RelT N S O) (hN : N ≤ 1000) (reb f wt : Int) : ∃ er S' O', RelT (N + 1) S' O' ∧ BothT 29 60 (fun p => #[p, .int .i64 f, .int .i64 wt]) reb er S O S' O' := by
  have hlen := h.ok.ok.len
  by_cases hb : f < 0 ∨ 32 ≤ f ∨ wt < 1 ∨ 16 < wt
  · have e : joinR S f wt = (1, S) := by
      have : joinE S f wt = 1 := if_pos hb
      unfold joinR; rw [this]; rfl
    refine ⟨1, S, O, h.next, fun b w R o => ?_, fun P b w R o => ?_⟩
    · have := sfqJoin_spec f wt o
      rw [e] at this
      exact this
    · exact (joinT_bad f wt hb).mono fun e w' he => setWT_same o he
  · cases hf : fget S.L f with
    | some t =>
      have e : joinR S f wt = (7, S) := by
        have : joinE S f wt = 7 := by unfold joinE; rw [if_neg hb, hf]; rfl
        unfold joinR; rw [this]; rfl
      refine ⟨7, S, O, h.next, fun b w R o => ?_, fun P b w R o => ?_⟩
      · have := sfqJoin_spec f wt o
        rw [e] at this
        exact this
      · exact (joinT_dup f wt (by omega) (by omega) hf (by omega) o).mono fun e w' he => setWT_same o he
    | none =>
      have hE : joinE S f wt = 0 := by unfold joinE; rw [if_neg hb, hf]; rfl
      have e : joinR S f wt = (0, joinS S f wt) := by unfold joinR; rw [hE]; rfl
      refine ⟨0, joinS S f wt, delT f O, ⟨(h.ok.join hE).1, ⟨fun g => ?_, fun t ht => ?_, fun t ht => h.r.rng t (mem_delT.1 ht).1⟩, ?_, h.aw0, ?_⟩, fun b w R o => ?_, fun P b w R o => ?_⟩
      · rw [oldM_del, h.r.old]; rfl
      · show (if t.f = f then 0 else S.old t.f) = 0
        split
        · rfl
        · rename_i hne
          rcases mem_insT.1 ht with rfl | ht
          · exact absurd rfl hne
          · exact h.r.act t ht
      · have := h.ol
        have := delT_len f O
        omega
      · show S.aw ≤ _
        have := h.aw1
        push_cast
        omega
      · have := sfqJoin_spec f wt o
        rw [e] at this
        exact this
      · have := joinT_spec f wt (by omega) (by omega) hf (by omega) (by have := h.ol; omega) h.r.rng h.ok.tm o
        rw [h.r.old] at this
        exact this
theorem leave_both (h : RelT N S O) (hN : N ≤ 1000) (reb f : Int) : ∃ er S' O', RelT (N + 1) S' O' ∧ BothT 35 61 (fun p => #[p, .int .i64 f]) reb er S O S' O' := by
  have hlen := h.ok.ok.len
  cases hf : fget S.L f with
  | none =>
    have e : leaveR S f = (6, S) := by unfold leaveR; rw [hf]
    refine ⟨6, S, O, h.next, fun b w R o => ?_, fun P b w R o => ?_⟩
    · have := sfqLeave_spec f o
      rw [e] at this
      exact this
    · exact (leaveT_none f (by omega) hf o).mono fun e w' he => setWT_same o he
  | some t =>
    have e : leaveR S f = (0, leaveS S f t.s) := by unfold leaveR; rw [hf]
    obtain ⟨hm, htf⟩ := fget_some hf
    have hr := h.ok.ok.rng t hm
    have hL : (leaveS S f t.s).L = delT f S.L := by
      unfold leaveS
      split
      · rename_i hz; exact hz.symm
      · rfl
    have hT : (leaveS S f t.s).tm = lvN f S.L S.tm := by
      unfold leaveS lvN
      split <;> rfl
    have hA : (leaveS S f t.s).aw = S.aw := by
      unfold leaveS
      split <;> rfl
    refine ⟨0, leaveS S f t.s, lvO f S.L O t, ⟨h.ok.leave hf, ⟨fun g => ?_, fun u hu => ?_, fun u hu => ?_⟩, ?_, by rw [hA]; exact h.aw0, ?_⟩, fun b w R o => ?_, fun P b w R o => ?_⟩
    · unfold leaveS lvO
      split
      · rfl
      · rw [oldM_snoc, h.r.old]
        show _ = if g = f then t.s else S.old g
        by_cases hg : g = f
        · subst hg
          rw [if_pos htf, if_pos rfl]
          have := h.r.act t hm
          rw [htf] at this
          rw [this]
          omega
        · rw [if_neg (by rw [htf]; exact fun e => hg e.symm), if_neg hg]
    · rw [hL] at hu
      obtain ⟨h1, h2⟩ := mem_delT.1 hu
      have := h.r.act u h1
      unfold leaveS
      split
      · rfl
      · show (if u.f = f then t.s else S.old u.f) = 0
        rw [if_neg h2]; exact this
    · unfold lvO at hu
      split at hu
      · simp at hu
      · rcases List.mem_append.1 hu with hu | hu
        · exact h.r.rng u hu
        · rw [List.mem_singleton] at hu
          subst hu
          omega
    · have := h.ol
      unfold lvO
      split
      · simp
      · rw [List.length_append]; simp; omega
    · rw [hA]
      have := h.aw1
      push_cast
      omega
    · have := sfqLeave_spec f o
      rw [e] at this
      exact this
    · have := leaveT_ok f h.ok.ok (by have := h.ol; omega) hf o
      rw [hL, hT, hA]
      exact this
theorem setW_both (h : RelT N S O) (reb f wt : Int) : ∃ er S' O', RelT (N + 1) S' O' ∧ BothT 62 63 (fun p => #[p, .int .i64 f, .int .i64 wt]) reb er S O S' O' := by
  have hlen := h.ok.ok.len
  cases hf : fget S.L f with
  | none =>
    have e : setWR S f wt = (6, S) := by unfold setWR; rw [hf]
    refine ⟨6, S, O, h.next, fun b w R o => ?_, fun P b w R o => ?_⟩
    · have := sfqSetW_spec f wt o
      rw [e] at this
      exact this
    · have := setWT_err f wt (by omega) (.inl hf) o
      rw [if_pos hf] at this
      exact this.mono fun e w' he => setWT_same o he
  | some t =>
    obtain ⟨hm, htf⟩ := fget_some hf
    have hr := h.ok.ok.rng t hm
    by_cases hb : wt < 1 ∨ 16 < wt
    · have e : setWR S f wt = (1, S) := by unfold setWR; rw [hf]; exact if_pos hb
      refine ⟨1, S, O, h.next, fun b w R o => ?_, fun P b w R o => ?_⟩
      · have := sfqSetW_spec f wt o
        rw [e] at this
        exact this
      · have := setWT_err f wt (by omega) (.inr (by omega)) o
        rw [if_neg (by rw [hf]; simp)] at this
        exact this.mono fun e w' he => setWT_same o he
    · have e : setWR S f wt = (0, { S with L := setT ⟨t.f, wt, t.s⟩ S.L }) := by unfold setWR; rw [hf]; exact if_neg hb
      refine ⟨0, { S with L := setT ⟨t.f, wt, t.s⟩ S.L }, O, ⟨⟨h.ok.ok.set (x := ⟨t.f, wt, t.s⟩) ⟨hr.1, hr.2.1, by show 1 ≤ wt; omega, by show wt ≤ 16; omega, hr.2.2.2.2⟩, h.ok.old, h.ok.tm⟩, ⟨h.r.old, fun u hu => ?_, h.r.rng⟩, ?_, h.aw0, ?_⟩, fun b w R o => ?_, fun P b w R o => ?_⟩
      · rcases mem_setT hu with rfl | ⟨hu, -⟩
        · exact h.r.act t hm
        · exact h.r.act u hu
      · have := h.ol
        omega
      · show S.aw ≤ _
        have := h.aw1
        push_cast
        omega
      · have := sfqSetW_spec f wt o
        rw [e] at this
        exact this
      · exact setWT_ok f wt h.ok.ok (by omega) hf o
theorem finF_bad {s len wt : Int} (hl : ¬ (1 ≤ len ∧ len ≤ 4096)) : finF s len wt = (0, 1) := by
  unfold finF
  exact if_pos (.inl (by unfold badLW; omega))
theorem finF_rng {s len wt : Int} (hl : 1 ≤ len ∧ len ≤ 4096) (hw : 1 ≤ wt ∧ wt ≤ 16) (hs : 0 ≤ s ∧ s ≤ 1099511627776) (h : (finF s len wt).2 ≠ 0) : (finF s len wt).2 = 2 := by
  unfold finF at *
  split at h
  · rename_i hx
    unfold badLW at hx
    omega
  · rename_i hx
    rw [if_neg hx]
    split at h
    · rename_i hy; rw [if_pos hy]
    · exact absurd rfl h
theorem charge_both (h : RelT N S O) (hN : N ≤ 1000) (reb f len : Int) : ∃ er S' O', RelT (N + 1) S' O' ∧ BothT 30 64 (fun p => #[p, .int .i64 f, .int .i64 len]) reb er S O S' O' := by
  have hlen := h.ok.ok.len
  have hawr : 0 ≤ S.aw ∧ S.aw ≤ 1152921504606846976 := ⟨h.aw0, by have := h.aw1; omega⟩
  have haw := chargeR_aw reb h.ok f len
  cases hf : fget S.L f with
  | none =>
    have e : chargeR reb S f len = (6, S) := by unfold chargeR; rw [hf]
    refine ⟨6, S, O, h.next, fun b w R o => sfqCharge_as e hawr o, fun P b w R o => ?_⟩
    exact (chargeT_none f len (by omega) hf o).mono fun e w' he => setWT_same o he
  | some t =>
    obtain ⟨hm, htf⟩ := fget_some hf
    have hr := h.ok.ok.rng t hm
    by_cases hl : 1 ≤ len ∧ len ≤ 4096
    · by_cases he : (finF t.s len t.w).2 = 0
      · obtain ⟨nx, hnx⟩ : ∃ nx, finF t.s len t.w = (nx, 0) := ⟨(finF t.s len t.w).1, by rw [← he]⟩
        obtain ⟨k1, k2, k3, k4⟩ := finF_ok he
        have hc : 0 ≤ nx ∧ nx ≤ 1099511627776 := by
          rw [hnx] at k1
          have k1' : nx = _ := k1
          have : 0 ≤ cst len t.w := by
            unfold cst
            exact Int.mul_nonneg (by omega) (by have := unit1_range (wt := t.w) (by omega) (by omega); omega)
          omega
        have e := chargeR_ok (reb := reb) hf hnx
        have hok := h.ok.ch hm hc
        have hne : (chS S t nx).L ≠ [] := setT_ne (List.ne_nil_of_mem hm)
        have hb := byS_rng hok hne
        have hB : chB (setT ⟨t.f, t.w, nx⟩ S.L) (max S.tm t.s) = byS (chS S t nx) := Int.min_comm _ _
        rw [e] at haw
        dsimp only at haw
        have hR : RelT (N + 1) (rebS reb (chS S t nx)) (chO reb (max S.tm t.s) (setT ⟨t.f, t.w, nx⟩ S.L) O) := by
          have hca : ∀ u ∈ (chS S t nx).L, S.old u.f = 0 := fun u hu => by
            rcases mem_setT hu with rfl | ⟨hu, -⟩
            · exact h.r.act t hm
            · exact h.r.act u hu
          refine ⟨hok.reb hne reb, ?_, ?_, by have := h.aw0; have := haw.1; omega, by have := h.aw1; have := haw.2; push_cast; omega⟩
          · unfold rebS chO
            rw [hB]
            split
            · exact ⟨h.r.old, hca, h.r.rng⟩
            · refine ⟨fun g => ?_, fun u hu => ?_, fun u hu => ?_⟩
              · rw [oldM_low g _ hb.1, h.r.old]; rfl
              · obtain ⟨v, hv, rfl⟩ := List.mem_map.1 hu
                have := hca v hv
                show max (S.old v.f - _) 0 = 0
                rw [this]
                omega
              · obtain ⟨v, hv, rfl⟩ := List.mem_map.1 hu
                have := h.r.rng v hv
                show 0 ≤ max (v.s - _) 0 ∧ max (v.s - _) 0 ≤ _
                omega
          · have := h.ol
            unfold chO
            split
            · omega
            · rw [List.length_map]; omega
        have hL : (rebS reb (chS S t nx)).L = chL reb (max S.tm t.s) (setT ⟨t.f, t.w, nx⟩ S.L) := by
          unfold rebS chL
          rw [hB]
          split
          · rfl
          · refine List.map_congr_left fun u hu => ?_
            have := hb.2.2 u hu
            show Tg.mk _ _ _ = Tg.mk _ _ _
            congr 1
            omega
        have hT : (rebS reb (chS S t nx)).tm = chN reb (max S.tm t.s) (setT ⟨t.f, t.w, nx⟩ S.L) := by
          unfold rebS chN
          rw [hB]
          split <;> rfl
        have hA : (rebS reb (chS S t nx)).aw = chA reb (max S.tm t.s) S.aw (setT ⟨t.f, t.w, nx⟩ S.L) := by
          unfold rebS chA
          rw [hB]
          split <;> rfl
        refine ⟨0, _, _, hR, fun b w R o => sfqCharge_as e hawr o, fun P b w R o => ?_⟩
        rw [hL, hT, hA]
        exact chargeT_ok f len nx h.ok.ok hok.ok hf hl hnx h.ok.tm hawr (by have := h.ol; omega) h.r.rng o
      · have e := chargeR_err (reb := reb) hf he
        rw [finF_rng hl ⟨hr.2.2.1, hr.2.2.2.1⟩ hr.2.2.2.2 he] at e
        refine ⟨2, S, O, h.next, fun b w R o => sfqCharge_as e hawr o, fun P b w R o => ?_⟩
        exact (chargeT_rng f len h.ok.ok hf hl he o).mono fun e w' he => ⟨P, PExtT.refl P, he⟩
    · have e := chargeR_err (reb := reb) (len := len) hf (by rw [finF_bad hl]; decide)
      rw [finF_bad hl] at e
      refine ⟨1, S, O, h.next, fun b w R o => sfqCharge_as e hawr o, fun P b w R o => ?_⟩
      exact (chargeT_len f len (by omega) hf hl o).mono fun e w' he => setWT_same o he
end
end Go.Proofs.Ytnandakoigmknaa
