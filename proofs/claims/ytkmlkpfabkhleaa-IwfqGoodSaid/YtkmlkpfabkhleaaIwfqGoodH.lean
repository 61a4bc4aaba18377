/- Texts that the law rests on, put together by a program. -/
import Derived.Test.YtkmlkpfabkhleaaIwfqGoodE
import Derived.Test.YtkmlkpfabkhleaaIwfqGoodG
import Derived.Test.YtkmlkpfabkhleaaIwfqGoodB
import Derived.Test.YtkmlkpfabkhleaaIwfqGoodC
/- Both references: their relation, and each operation on both. -/
namespace Go.Proofs.Ytkmlkpfabkhleaa
open Go.RowKit
open SP
section
variable {P : SP} {W w w' : World} {R : List SP} {b : Nat} {at_ now aw : Int} {L O : List Tg}
set_option maxHeartbeats 3200000 in
set_option maxRecDepth 100000 in
theorem joinT_bad (f wt : Int) (hb : f < 0 ∨ 32 ≤ f ∨ wt < 1 ∨ 16 < wt) :
    Calls Try.prog 24 #[.pointer (some ⟨b, 0, none⟩), .int .i64 f, .int .i64 wt] w (IsRet (.int .i64 1) w) := by
  have hgw := goodW_spec wt w
  by_cases h1 : f < 0
  · clear hb hgw
    go_enter Try.func24, Try.ntmps24
    go_wp2
    go_ret
    exact ⟨rfl, rfl⟩
  · by_cases h2 : 32 ≤ f
    · clear hb hgw
      go_enter Try.func24, Try.ntmps24
      go_wp2
      go_ret
      exact ⟨rfl, rfl⟩
    · have hd : decide (1 ≤ wt ∧ wt ≤ 16) = false := by
        rw [decide_eq_false_iff_not]; omega
      rw [hd] at hgw
      clear hb hd
      go_enter Try.func24, Try.ntmps24
      go_wp2_with fail
      refine hgw.mono ?_
      rintro e1 w1 ⟨rfl, rfl⟩
      go_wp2
      go_ret
      exact ⟨rfl, rfl⟩
set_option maxHeartbeats 3200000 in
set_option maxRecDepth 100000 in
theorem joinT_dup (f wt : Int) (hf : 0 ≤ f ∧ f < 32) (hw : 1 ≤ wt ∧ wt ≤ 16) {t : Tg} (hn : fget L f = some t) (hL : L.length ≤ 1000) (o : Own w (RefT P b at_ L O now aw :: P :: R)) :
    Calls Try.prog 24 #[.pointer (some ⟨b, 0, none⟩), .int .i64 f, .int .i64 wt] w (IsRet (.int .i64 7) w) := by
  have hat := index_spec f hL o
  obtain ⟨i, hi, hai⟩ := idxT_some 0 L hn
  rw [hai, Nat.zero_add] at hat
  have hgw := goodW_spec wt w
  have hdw : decide (1 ≤ wt ∧ wt ≤ 16) = true := by simp; exact hw
  rw [hdw] at hgw
  obtain ⟨hf0, hf1⟩ := hf
  clear hdw hn hw hi hai
  go_enter Try.func24, Try.ntmps24
  go_wp2_with fail
  refine hgw.mono ?_
  rintro e1 w1 ⟨rfl, rfl⟩
  go_wp2_with fail
  refine hat.mono ?_
  rintro e2 w2 ⟨rfl, rfl⟩
  go_wp2
  go_ret
  exact ⟨rfl, rfl⟩
end

/-- Behind N acts. -/
structure RelT (N : Nat) (S : St) (O : List Tg) : Prop where
  ok : StOk S
  r : R12 S O
  ol : O.length ≤ N
  aw0 : 0 ≤ S.aw
  aw1 : S.aw ≤ N * 1099511627776
theorem RelT.start : RelT 0 St0 [] := ⟨StOk.start, R12.start, by simp, by simp [St0], by simp [St0]⟩
theorem RelT.next {N : Nat} {S : St} {O : List Tg} (h : RelT N S O) : RelT (N + 1) S O := ⟨h.ok, h.r, by have := h.ol; omega, h.aw0, by have := h.aw1; push_cast; omega⟩

/-- One operation on both. -/
structure BothT (fp fr : Nat) (args : Value → Array Value) (reb er : Int) (S : St) (O : List Tg) (S' : St) (O' : List Tg) : Prop where
  prog : ∀ (b : Nat) (w : World) (R : List SP), Own w (SfqR b reb S :: R) → Calls Try.prog fp (args (.pointer (some ⟨b, 0, none⟩))) w (Ret (.int .i64 er) (SfqR b reb S' :: R) w)
  ref : ∀ (P : SP) (b : Nat) (w : World) (R : List SP), Own w (RefT P b reb S.L O S.tm S.aw :: P :: R) → Calls Try.prog fr (args (.pointer (some ⟨b, 0, none⟩))) w (SetWT b reb S'.L O' S'.tm S'.aw P R w er)

section
variable {S : St} {O : List Tg} {N : Nat}
theorem setWT_same {b : Nat} {at_ er now aw : Int} {L : List Tg} {P : SP} {R : List SP} {w : World} (o : Own w (RefT P b at_ L O now aw :: P :: R)) {e : Ending} {w' : World} (h : IsRet (.int .i64 er) w e w') : SetWT b at_ L O now aw P R w er e w' := by
  obtain ⟨rfl, rfl⟩ := h
  exact ⟨P, PExtT.refl P, rfl, o, Calm.refl _⟩
theorem join_both (h : RelT N S O) (hN : N ≤ 1000) (reb f wt : Int) : ∃ er S' O', joinR S f wt = (er, S') ∧ RelT (N + 1) S' O' ∧ BothT 50 24 (fun p => #[p, .int .i64 f, .int .i64 wt]) reb er S O S' O' := by
  have hlen := h.ok.ok.len
  by_cases hb : f < 0 ∨ 32 ≤ f ∨ wt < 1 ∨ 16 < wt
  · have e : joinR S f wt = (1, S) := by
      have : joinE S f wt = 1 := if_pos hb
      unfold joinR; rw [this]; rfl
    refine ⟨1, S, O, e, h.next, fun b w R o => ?_, fun P b w R o => ?_⟩
    · have := sfqJoin_spec f wt o
      rw [e] at this
      exact this
    · exact (joinT_bad f wt hb).mono fun e w' he => setWT_same o he
  · cases hf : fget S.L f with
    | some t =>
      have e : joinR S f wt = (7, S) := by
        have : joinE S f wt = 7 := by unfold joinE; rw [if_neg hb, hf]; rfl
        unfold joinR; rw [this]; rfl
      refine ⟨7, S, O, e, h.next, fun b w R o => ?_, fun P b w R o => ?_⟩
      · have := sfqJoin_spec f wt o
        rw [e] at this
        exact this
      · exact (joinT_dup f wt (by omega) (by omega) hf (by omega) o).mono fun e w' he => setWT_same o he
    | none =>
      have hE : joinE S f wt = 0 := by unfold joinE; rw [if_neg hb, hf]; rfl
      have e : joinR S f wt = (0, joinS S f wt) := by unfold joinR; rw [hE]; rfl
      refine ⟨0, joinS S f wt, delT f O, e, ⟨(h.ok.join hE).1, ⟨fun g => ?_, fun t ht => ?_, fun t ht => h.r.rng t (mem_delT.1 ht).1⟩, ?_, h.aw0, ?_⟩, fun b w R o => ?_, fun P b w R o => ?_⟩
      · rw [oldM_del, h.r.old]; rfl
      · show (if t.f = f then 0 else S.old t.f) = 0
        split
        · rfl
        · rename_i hne
          rcases mem_insT.1 ht with rfl | ht
          · exact absurd rfl hne
          · exact h.r.act t ht
      · have := h.ol
        have := delT_len f O
        omega
      · show S.aw ≤ _
        have := h.aw1
        push_cast
        omega
      · have := sfqJoin_spec f wt o
        rw [e] at this
        exact this
      · have := joinT_spec f wt (by omega) (by omega) hf (by omega) (by have := h.ol; omega) h.r.rng h.ok.tm o
        rw [h.r.old] at this
        exact this
theorem finF_bad {s len wt : Int} (hl : ¬ (1 ≤ len ∧ len ≤ 4096)) : finF s len wt = (0, 1) := by
  unfold finF
  exact if_pos (.inl (by unfold badLW; omega))
theorem finF_rng {s len wt : Int} (hl : 1 ≤ len ∧ len ≤ 4096) (hw : 1 ≤ wt ∧ wt ≤ 16) (hs : 0 ≤ s ∧ s ≤ 1099511627776) (h : (finF s len wt).2 ≠ 0) : (finF s len wt).2 = 2 := by
  unfold finF at *
  split at h
  · rename_i hx
    unfold badLW at hx
    omega
  · rename_i hx
    rw [if_neg hx]
    split at h
    · rename_i hy; rw [if_pos hy]
    · exact absurd rfl h
theorem charge_both (h : RelT N S O) (hN : N ≤ 1000) (reb f len : Int) : ∃ er S' O', chargeR reb S f len = (er, S') ∧ RelT (N + 1) S' O' ∧ BothT 78 27 (fun p => #[p, .int .i64 f, .int .i64 len]) reb er S O S' O' := by
  have hlen := h.ok.ok.len
  have hawr : 0 ≤ S.aw ∧ S.aw ≤ 1152921504606846976 := ⟨h.aw0, by have := h.aw1; omega⟩
  have haw := chargeR_aw reb h.ok f len
  cases hf : fget S.L f with
  | none =>
    have e : chargeR reb S f len = (6, S) := by unfold chargeR; rw [hf]
    refine ⟨6, S, O, e, h.next, fun b w R o => sfqCharge_as e hawr o, fun P b w R o => ?_⟩
    exact (chargeT_none f len (by omega) hf o).mono fun e w' he => setWT_same o he
  | some t =>
    obtain ⟨hm, htf⟩ := fget_some hf
    have hr := h.ok.ok.rng t hm
    by_cases hl : 1 ≤ len ∧ len ≤ 4096
    · by_cases he : (finF t.s len t.w).2 = 0
      · obtain ⟨nx, hnx⟩ : ∃ nx, finF t.s len t.w = (nx, 0) := ⟨(finF t.s len t.w).1, by rw [← he]⟩
        obtain ⟨k1, k2, k3, k4⟩ := finF_ok he
        have hc : 0 ≤ nx ∧ nx ≤ 1099511627776 := by
          rw [hnx] at k1
          have k1' : nx = _ := k1
          have : 0 ≤ cst len t.w := by
            unfold cst
            exact Int.mul_nonneg (by omega) (by have := unit1_range (wt := t.w) (by omega) (by omega); omega)
          omega
        have e := chargeR_ok (reb := reb) hf hnx
        have hok := h.ok.ch hm hc
        have hne : (chS S t nx).L ≠ [] := setT_ne (List.ne_nil_of_mem hm)
        have hb := byS_rng hok hne
        have hB : chB (setT ⟨t.f, t.w, nx⟩ S.L) (max S.tm t.s) = byS (chS S t nx) := Int.min_comm _ _
        rw [e] at haw
        dsimp only at haw
        have hR : RelT (N + 1) (rebS reb (chS S t nx)) (chO reb (max S.tm t.s) (setT ⟨t.f, t.w, nx⟩ S.L) O) := by
          have hca : ∀ u ∈ (chS S t nx).L, S.old u.f = 0 := fun u hu => by
            rcases mem_setT hu with rfl | ⟨hu, -⟩
            · exact h.r.act t hm
            · exact h.r.act u hu
          refine ⟨hok.reb hne reb, ?_, ?_, by have := h.aw0; have := haw.1; omega, by have := h.aw1; have := haw.2; push_cast; omega⟩
          · unfold rebS chO
            rw [hB]
            split
            · exact ⟨h.r.old, hca, h.r.rng⟩
            · refine ⟨fun g => ?_, fun u hu => ?_, fun u hu => ?_⟩
              · rw [oldM_low g _ hb.1, h.r.old]; rfl
              · obtain ⟨v, hv, rfl⟩ := List.mem_map.1 hu
                have := hca v hv
                show max (S.old v.f - _) 0 = 0
                rw [this]
                omega
              · obtain ⟨v, hv, rfl⟩ := List.mem_map.1 hu
                have := h.r.rng v hv
                show 0 ≤ max (v.s - _) 0 ∧ max (v.s - _) 0 ≤ _
                omega
          · have := h.ol
            unfold chO
            split
            · omega
            · rw [List.length_map]; omega
        have hL : (rebS reb (chS S t nx)).L = chL reb (max S.tm t.s) (setT ⟨t.f, t.w, nx⟩ S.L) := by
          unfold rebS chL
          rw [hB]
          split
          · rfl
          · refine List.map_congr_left fun u hu => ?_
            have := hb.2.2 u hu
            show Tg.mk _ _ _ = Tg.mk _ _ _
            congr 1
            omega
        have hT : (rebS reb (chS S t nx)).tm = chN reb (max S.tm t.s) (setT ⟨t.f, t.w, nx⟩ S.L) := by
          unfold rebS chN
          rw [hB]
          split <;> rfl
        have hA : (rebS reb (chS S t nx)).aw = chA reb (max S.tm t.s) S.aw (setT ⟨t.f, t.w, nx⟩ S.L) := by
          unfold rebS chA
          rw [hB]
          split <;> rfl
        refine ⟨0, _, _, e, hR, fun b w R o => sfqCharge_as e hawr o, fun P b w R o => ?_⟩
        rw [hL, hT, hA]
        exact chargeT_ok f len nx h.ok.ok hok.ok hf hl hnx h.ok.tm hawr (by have := h.ol; omega) h.r.rng o
      · have e := chargeR_err (reb := reb) hf he
        rw [finF_rng hl ⟨hr.2.2.1, hr.2.2.2.1⟩ hr.2.2.2.2 he] at e
        refine ⟨2, S, O, e, h.next, fun b w R o => sfqCharge_as e hawr o, fun P b w R o => ?_⟩
        exact (chargeT_rng f len h.ok.ok hf hl he o).mono fun e w' he => ⟨P, PExtT.refl P, he⟩
    · have e := chargeR_err (reb := reb) (len := len) hf (by rw [finF_bad hl]; decide)
      rw [finF_bad hl] at e
      refine ⟨1, S, O, e, h.next, fun b w R o => sfqCharge_as e hawr o, fun P b w R o => ?_⟩
      exact (chargeT_len f len (by omega) hf hl o).mono fun e w' he => setWT_same o he
end
end Go.Proofs.Ytkmlkpfabkhleaa

/- Iwfq: bounds that are drawn; joining one after the other where some may be refused. -/
namespace Go.Proofs.Ytkmlkpfabkhleaa
open Go.RowKit
open SP
section
variable {W w w' : World} {R : List SP} {b cb N : Nat} {s : Iw} {i : Nat}

def bdL : List Int := [0, 100, 1000, 5000, 20000, 1099511627776, -1, 1099511627777]
def BdPost (W : World) (b N : Nat) (R : List SP) (w : World) (e : Ending) (w' : World) : Prop :=
  ∃ x : Int, Ret (.int .i64 x) (Ch W b (N + 2) :: old W :: R) w e w'
set_option maxHeartbeats 1600000 in
theorem bound_spec (hN : N ≤ 800000000) (o : Own w (Ch W b N :: old W :: R)) :
    Calls Try.prog 23 #[.pointer (some ⟨b, 0, none⟩)] w (BdPost W b N R w) := by
  have o1 : Own (w.alloc (.cells (bdL.map (Value.int .i64)).toArray 2)) (cel w.heap.size 2 (bdL.map (Value.int .i64)) :: Ch W b N :: old W :: R) := o.alloc _
  go_enter Try.func23, Try.ntmps23
  go_wp2_with fail
  refine (next_spec W b N 9 _ _ (by omega) (by omega) (by omega) (o1.re [1, 2])).mono ?_
  rintro e2 w2 ⟨x, hx0, hx1, rfl, o3, k3⟩
  obtain ⟨y, hy⟩ : ∃ y, Int.tdiv x 8 = y := ⟨_, rfl⟩
  have hy0 : y = 0 ∨ y = 1 := by rw [← hy, Int.tdiv_eq_ediv_of_nonneg hx0]; omega
  have h1 := IntWalk.i64_in y (by omega)
  have h2 := IntWalk.i64_in (y * 2) (by omega)
  have h3 := IntWalk.i64_in (6 + y * 2) (by omega)
  have HY := Lib.hid hy0
  go_wp2_with fail
  refine (next_spec W b (N + 1) (6 + y * 2) _ _ (by omega) (by omega) (by omega) o3).mono ?_
  rintro e4 w4 ⟨z, hz0, hz1, rfl, o4, k4⟩
  obtain ⟨j, rfl⟩ : ∃ j : Nat, z = (j : Int) := ⟨z.toNat, by omega⟩
  have hj : j < bdL.length := by have := HY.out; show j < 8; omega
  have c := Own.cell (v := .int .i64 bdL[j]) (o4.up 2) j (by rw [List.getElem?_map, List.getElem?_eq_getElem hj]; rfl)
  generalize bdL[j] = u at *
  have hj8 : (j : Int) < 8 := by have : j < 8 := hj; omega
  clear h1 h2 h3 hy hz1 hj
  go_wp2
  go_ret
  exact ⟨u, rfl, (o4.up 2).drop, (qcalm_alloc (x := .cells (bdL.map (Value.int .i64)).toArray 2) (Calm.refl w)).trans (k3.trans k4)⟩

/-- A flow joins behind all others; where its bounds are not permitted nothing changes. -/
theorem joinI_lt {k : Nat} (h : IwInv i s) (hlt : ∀ t ∈ s.R.L, t.f < (k : Int)) (hk : k < 32) {w : Int} (h1 : 1 ≤ w) (h2 : w ≤ 16) (x y : Int) :
    IwInv i (joinI s (k : Int) w x y).2 ∧ (∀ f, (accO s.m f).1 = 0 → (accO (joinI s (k : Int) w x y).2.m f).1 = 0) ∧ (∀ t ∈ (joinI s (k : Int) w x y).2.R.L, t.f < ((k + 1 : Nat) : Int)) ∧
      ((joinI s (k : Int) w x y).2.R = s.R ∨ (joinI s (k : Int) w x y).2.R = joinS s.R (k : Int) w ∧ (joinI s (k : Int) w x y).2.R.L.length = s.R.L.length + 1) := by
  have hno : fget s.R.L (k : Int) = none := fget_none.2 fun t ht e => by have := hlt t ht; omega
  have he : joinE s.R (k : Int) w = 0 := by
    unfold joinE
    rw [if_neg (by omega), hno]
    rfl
  unfold joinI
  cases hb : bndI x y with
  | false =>
    rw [if_pos rfl]
    exact ⟨h, fun f hf => hf, fun t ht => by have := hlt t ht; push_cast; omega, .inl rfl⟩
  | true =>
    rw [if_neg (by simp), if_pos he]
    have hL : (joinS s.R (k : Int) w).L = s.R.L ++ [⟨(k : Int), w, max s.R.tm (s.R.old (k : Int))⟩] := insT_endI hlt
    dsimp only
    refine ⟨⟨h.tb.join he, fun f => ?_, fun t ht => ?_⟩, fun f hf => ?_, fun t ht => ?_, .inr ⟨rfl, by rw [hL, List.length_append]; rfl⟩⟩
    · dsimp only
      rw [accO_mput]
      split
      · unfold bndI at hb
        simp only [Bool.and_eq_true, decide_eq_true_eq] at hb
        unfold accIn
        dsimp only
        omega
      · exact h.acc f
    · dsimp only at ht ⊢
      rw [mget_mput]
      split
      · exact ⟨_, rfl⟩
      · rename_i hne
        rw [hL] at ht
        rcases List.mem_append.1 ht with ht | ht
        · exact h.ks t ht
        · rw [List.mem_singleton] at ht; subst ht; exact absurd rfl hne
    · rw [accO_mput]
      split
      · rfl
      · exact hf
    · rw [hL] at ht
      rcases List.mem_append.1 ht with ht | ht
      · have := hlt t ht; push_cast; omega
      · rw [List.mem_singleton] at ht; subst ht; show (k : Int) < _; push_cast; omega
end
end Go.Proofs.Ytkmlkpfabkhleaa

/- IwfqStrict, walked. -/
namespace Go.Proofs.Ytkmlkpfabkhleaa
open Go.RowKit
open SP
section
variable {W w w' : World} {R : List SP} {b cb : Nat}

theorem idJ_get {n k : Nat} (h : k < n) : (idJ n)[k]? = some (k : Int) := by
  unfold idJ
  rw [List.getElem?_map, List.getElem?_range h]; rfl
theorem below_ofI {l : List SP} (o : Own w' (old w :: l)) (k : Calm w w') : Below w.heap.size w w' := o.below k
def SjRel (W : World) (b cb : Nat) (a1 : Option Addr) (c1 : Nat) (w : World) (v : Value) (wr : World) : Prop :=
  ∃ (k : Nat) (s : Iw), v = .int .i64 (k : Int) ∧ k ≤ 4 ∧ IwInv 0 s ∧ (∀ f, accO s.m f = (0, 0, 0)) ∧ s.R.L.map (·.f) = idJ k ∧
    Own wr (IwR b 1099511627776 s :: slc 3 1 a1 4 c1 ((idJ 4).map (Value.int .i64)) :: Ch W cb (0 + k) :: old W :: []) ∧ Calm w wr
def SsRel (W : World) (b cb : Nat) (a1 : Option Addr) (c1 : Nat) (w : World) (v : Value) (wr : World) : Prop :=
  ∃ (k : Nat) (s : Iw), v = .int .i64 (k : Int) ∧ k ≤ 40 ∧ IwInv k s ∧ (∀ f, accO s.m f = (0, 0, 0)) ∧ s.R.L.map (·.f) = idJ 4 ∧
    Own wr (IwR b 1099511627776 s :: slc 3 1 a1 4 c1 ((idJ 4).map (Value.int .i64)) :: Ch W cb (0 + 4 + 8 * k) :: old W :: []) ∧ Calm w wr
def anyG (H : List Head) : Bool := H.any (·.good)
def SmRel (n : Nat) (H : List Head) (w : World) (P : List SP) (W : World) (v10 v11 : Value) (wr : World) : Prop :=
  ∃ q : Nat, v10 = .bool (anyG (H.take q)) ∧ v11 = .int .i64 (q : Int) ∧ q ≤ n ∧ Own wr P ∧ Calm W wr

set_option maxHeartbeats 6400000 in
set_option maxRecDepth 100000 in
theorem iwfqStrict_walk (a0 : Option Addr) (len0 cap0 : Nat) (z0 : List Int) (w : World) (w0 : IsRow .i64 w a0 len0 cap0 z0) :
    Calls Try.prog 6 #[.slice a0 len0 cap0] w fun e w' => e = .returned (.bool true) ∧ Below w.heap.size w w' := by
  have oW := Own.start w
  go_enter Try.func6, Try.ntmps6
  go_wp2_with fail
  refine (genNew_spec a0 len0 cap0 z0 w0 oW).mono ?_
  rintro e1 v1 ⟨cb, rfl, o1, k1⟩
  go_wp2_with fail
  refine (iwNew_spec 1099511627776 (by decide) (by decide) o1).mono ?_
  rintro e2 v2 ⟨b, rfl, o2, k2⟩
  have oL := o2.alloc (.cells #[.int .i64 0, .int .i64 1, .int .i64 2, .int .i64 3] 3)
  have oI := slc_new (size := 1) (n := 4) oL rfl (by omega)
  have hT : SjRel w b cb (some ⟨v2.heap.size, 0, none⟩) 4 w (.int .i64 0) (v2.alloc (.cells #[.int .i64 0, .int .i64 1, .int .i64 2, .int .i64 3] 3)) := ⟨0, iw0, rfl, by omega, iw0_inv, fun f => rfl, rfl, oI.re [1, 0], qcalm_alloc (k1.trans k2)⟩
  clear oI oL o2 o1 k1 k2 oW
  go_wp2
  go_loopw [7] (fun v wr => SjRel w b cb (some ⟨v2.heap.size, 0, none⟩) 4 w v wr) (fun v _ => 4 - (Lib.intOf v).toNat)
  case atStart => exact hT
  case round =>
    clear hT
    obtain ⟨k, s, rfl, hk, hI, hz, hfl, oR, kR⟩ := hrel
    by_cases hlt : k < 4
    · obtain ⟨g, hg, hc, _, hgl⟩ := (oR.up 1).slc_cell (by omega)
      cases hg
      have dk := hc k (.int .i64 (k : Int)) (by rw [List.getElem?_map, idJ_get hlt]; rfl)
      clear hc
      have oRd := oR.drew.re [2, 3, 1, 0]
      go_wp2
      go_region_held3 (fun w' => w'.cell? ⟨v2.heap.size, k, none⟩ = some (.int .i64 (k : Int))) (go_keep) (first
        | (go_at_call 19; (with_reducible refine (weight_spec (0 + k) (by omega) oRd).mono ?_); rintro e3 v3 ⟨x, hx0, hx1, rfl, o3, k3⟩; obtain ⟨hj1, hj2, hj3⟩ := joinI_ok (x := 0) (y := 0) hI hfl (by omega) hx0 hx1 rfl; obtain ⟨g3, hg3, hc3, _, hl3⟩ := (o3.up 2).slc_cell (by omega); cases hg3; have d3 := hc3 k (.int .i64 (k : Int)) (by rw [List.getElem?_map, idJ_get hlt]; rfl); have hjn := iwJoin_spec (k : Int) x 0 0 (o3.re [3]); rw [hj1] at hjn)
        | (go_at_call 18; (with_reducible refine hjn.mono ?_); rintro e4 v4 ⟨rfl, o4, k4⟩; obtain ⟨g4, hg4, hc4, _, hl4⟩ := (o4.up 3).slc_cell (by omega); cases hg4; have d4 := hc4 k (.int .i64 (k : Int)) (by rw [List.getElem?_map, idJ_get hlt]; rfl)))
      have KT := kR.trans ((qcalm_drew (Calm.refl wr)).trans (k3.trans k4))
      go_wp2
      go_roundw
      case rel => exact ⟨k + 1, _, by go_num, by omega, hj2, fun f => (by dsimp only; rw [accO_mput]; split; rfl; exact hz f), hj3, o4.re [0, 3, 1, 2], KT⟩
      case measure => simp [Lib.intOf]; omega
    · have hk4 : k = 4 := by omega
      have hd4 : decide ((k : Int) < 4) = false := decide_eq_false (by omega)
      rw [hk4] at hfl oR
      have HK4 := Lib.hid hk4
      clear hk4
      have hT : SsRel w b cb (some ⟨v2.heap.size, 0, none⟩) 4 w (.int .i64 0) wr := ⟨0, s, rfl, by omega, hI, hz, hfl, oR, kR⟩
      clear oR kR hI hz hfl
      go_wp2
      go_loopw [8] (fun v wr => SsRel w b cb (some ⟨v2.heap.size, 0, none⟩) 4 w v wr) (fun v _ => 40 - (Lib.intOf v).toNat)
      case atStart => exact hT
      case round =>
        clear hT
        obtain ⟨i, s, rfl, hi, hI, hz, hfl, oR, kR⟩ := hrel
        by_cases hlt2 : i < 40
        · go_wp2_with fail
          refine (heads_spec (sz := 0) (.inl rfl) (intsAt_slc (some ⟨v2.heap.size, 0, none⟩) 4 4 (idJ 4) rfl) (c := 4) (n := 4) rfl (by omega) (by omega) (oR.re [2, 3, 1])).mono ?_
          rintro e5 v5 ⟨a5, c5, H, hH, rfl, o5, k5⟩
          rw [idJ_len] at o5 ⊢
          have hHl : H.length = 4 := by rw [← idJ_len 4, ← hH.1, List.length_map]
          have HHl := Lib.hid hHl
          have hT : SmRel 4 H w (slc 41 3 a5 4 c5 (flat headC H) :: Ch w cb (0 + 4 + 8 * i + 2 * 4) :: old w :: slc 3 1 (some ⟨v2.heap.size, 0, none⟩) 4 4 ((idJ 4).map (Value.int .i64)) :: IwR b 1099511627776 s :: []) w (.bool false) (.int .i64 0) v5 := ⟨0, rfl, rfl, by omega, o5, kR.trans k5⟩
          clear hHl oR kR o5 k5
          go_wp2
          go_loopw [10, 11] (fun v10 v11 wr => SmRel 4 H w (slc 41 3 a5 4 c5 (flat headC H) :: Ch w cb (0 + 4 + 8 * i + 2 * 4) :: old w :: slc 3 1 (some ⟨v2.heap.size, 0, none⟩) 4 4 ((idJ 4).map (Value.int .i64)) :: IwR b 1099511627776 s :: []) w v10 v11 wr) (fun _ v _ => 4 - (Lib.intOf v).toNat)
          case atStart => exact hT
          case round =>
            clear hT
            obtain ⟨q, rfl, rfl, hq, oR, kR⟩ := hrel
            by_cases hq4 : q < 4
            · obtain ⟨h, hh⟩ : ∃ h, H[q]? = some h := ⟨_, List.getElem?_eq_getElem (by have := HHl.out; omega)⟩
              obtain ⟨g, rfl, hc, _, _⟩ := oR.slc_cell (by omega)
              have d2 := hc (q * 3 + 2) (.bool h.good) (flat_get headC_len H q 2 h hh (by omega))
              have hst : anyG (H.take (q + 1)) = (anyG (H.take q) || h.good) := by
                unfold anyG
                rw [List.take_add_one, hh, List.any_append]
                simp
              have HST := Lib.hid hst
              clear hst hc hh
              cases hg : anyG (H.take q) with
              | true =>
                go_wp2
                go_roundw
                case rel => exact ⟨q + 1, by rw [HST.out, hg]; rfl, by go_num, by omega, oR, kR⟩
                case measure => simp [Lib.intOf]; omega
              | false =>
                go_wp2
                go_roundw
                case rel => exact ⟨q + 1, by rw [HST.out, hg]; rfl, by go_num, by omega, oR, kR⟩
                case measure => simp [Lib.intOf]; omega
            · have hq44 : q = 4 := by omega
              subst hq44
              rw [List.take_of_length_le (by have := HHl.out; omega)]
              have hft : fitsH s.R.L H = true := by
                unfold fitsH
                rw [Bool.and_eq_true, decide_eq_true_eq, List.all_eq_true]
                exact ⟨hH.1.trans hfl.symm, fun x hx => by have := hH.2 x hx; simp; omega⟩
              have hne : H ≠ [] := fun e => by have := HHl.out; rw [e] at this; simp at this
              obtain ⟨p1, p2, p3⟩ := hI.step (reb := 1099511627776) (by omega) hft hne
              obtain ⟨q1, q2, q3, q4, _, _⟩ := strict_step (reb := 1099511627776) hz hI.tb (by omega) hft hne
              have hst := iwStep_spec (c := c5) (hI.ok (by omega) 1099511627776) (headsAt_slc (T := 41) a5 4 c5 H HHl.out.symm) HHl.out.symm hft hne (oR.re [4, 0])
              obtain ⟨S', hS'⟩ : ∃ S', stepI 1099511627776 s H = S' := ⟨_, rfl⟩
              rw [hS'] at hst p1 p2 p3 q2 q3 q4
              rw [p1] at hst
              have hz' : ∀ f, accO S'.2.2.m f = (0, 0, 0) := fun f => by rw [q4]; exact hz f
              have hfl' : S'.2.2.R.L.map (·.f) = idJ 4 := by
                have := congrArg (List.map Prod.fst) p3
                rw [List.map_map, List.map_map] at this
                exact this.trans hfl
              have hany : anyG H = !decide (S'.1.why = 6) := by
                cases hg : anyG H with
                | true =>
                  unfold anyG at hg
                  obtain ⟨x, hx, hxg⟩ := List.any_eq_true.1 hg
                  have : ¬ S'.1.why = 6 := fun e => by have := q3.1 e x hx; rw [hxg] at this; cases this
                  rw [decide_eq_false this]; rfl
                | false =>
                  unfold anyG at hg
                  have : S'.1.why = 6 := q3.2 fun x hx => by
                    have := List.any_eq_false.1 hg x hx
                    simpa using this
                  rw [decide_eq_true this]; rfl
              rw [hany]
              have HP2 := Lib.hid p2
              have HZ := Lib.hid hz'
              have HF := Lib.hid hfl'
              clear p1 p2 p3 q1 q3 q4 hS' hz' hfl' hany hft
              unfold chV at hst
              obtain ⟨CH, hCH⟩ : ∃ CH, S'.1.ch = CH := ⟨_, rfl⟩
              obtain ⟨WY, hWY⟩ : ∃ WY, S'.1.why = WY := ⟨_, rfl⟩
              rw [← q2, hCH, hWY] at hst
              rw [hWY]
              clear q2 hCH hWY
              go_wp2_with fail
              refine hst.mono ?_
              rintro e6 v6 ⟨rfl, o6, k6⟩
              clear hst
              have oT := o6.alloc (.cells #[.int .i64 CH, .int .i64 CH, .int .i64 WY] 33)
              have KT := kR.trans (k6.trans (qcalm_alloc (x := .cells #[.int .i64 CH, .int .i64 CH, .int .i64 WY] 33) (Calm.refl v6)))
              have oF := (oT.re [0, 2] 2).re [0, 3, 1, 2]
              by_cases hw : WY = 6
              · subst hw
                go_wp2
                go_roundw
                case rel => exact ⟨i + 1, _, by go_num, by omega, HP2.out, HZ.out, HF.out, oF, KT⟩
                case measure => simp [Lib.intOf]; omega
              · have e1 : (WY == 6) = false := by simpa using hw
                have e2 : decide (WY = 6) = false := by simpa using hw
                rw [e2]
                go_wp2
                go_roundw
                case rel => exact ⟨i + 1, _, by go_num, by omega, HP2.out, HZ.out, HF.out, oF, KT⟩
                case measure => simp [Lib.intOf]; omega
        · go_wp2_with fail
          refine (awake25_spec oR).mono ?_
          rintro e8 v8 ⟨rfl, o8, k8⟩
          go_wp2
          go_ret
          exact ⟨rfl, below_ofI (o8.re [3]) (kR.trans k8)⟩
end
end Go.Proofs.Ytkmlkpfabkhleaa

/- IwfqGood, walked. -/
namespace Go.Proofs.Ytkmlkpfabkhleaa
open Go.RowKit
open SP
section
variable {W w w' : World} {R : List SP} {b cb : Nat}

def allGI (H : List Head) : List Head := H.map fun h => { h with good := true }
theorem mid_setI {H : List Head} {k : Nat} {h : Head} (hh : H[k]? = some h) : (flat headC (allGI (H.take k) ++ H.drop k)).set (k * 3 + 2) (.bool true) = flat headC (allGI (H.take (k + 1)) ++ H.drop (k + 1)) := by
  have hk := (List.getElem?_eq_some_iff.1 hh).1
  have hlen : (allGI (H.take k)).length = k := by unfold allGI; rw [List.length_map, List.length_take]; omega
  rw [drop_at hh, List.take_add_one, hh]
  show (flat headC (allGI (H.take k) ++ h :: H.drop (k + 1))).set (k * 3 + 2) (.bool true) = flat headC (allGI (H.take k ++ [h]) ++ H.drop (k + 1))
  have e : allGI (H.take k ++ [h]) = allGI (H.take k) ++ [{ h with good := true }] := by unfold allGI; rw [List.map_append]; rfl
  rw [e, List.append_assoc, flat_appendI, flat_appendI, List.set_append_right _ _ (by rw [flat_length headC_len, hlen]; omega), flat_length headC_len, hlen]
  congr 1
  have : k * 3 + 2 - k * 3 = 2 := by omega
  rw [this]
  rfl
def GaRel (n : Nat) (a5 : Option Addr) (c5 : Nat) (H : List Head) (R : List SP) (w : World) (v : Value) (wr : World) : Prop :=
  ∃ k : Nat, v = .int .i64 (k : Int) ∧ k ≤ n ∧ Own wr (slc 41 3 a5 n c5 (flat headC (allGI (H.take k) ++ H.drop k)) :: R) ∧ Calm w wr
def GjRel (W : World) (b rb cb : Nat) (reb : Int) (w : World) (v8 v9 : Value) (wr : World) : Prop :=
  ∃ (k : Nat) (s : Iw) (S : St) (O : List Tg) (P : SP) (a : Option Addr) (c : Nat), v8 = .slice a k c ∧ v9 = .int .i64 (k : Int) ∧ k ≤ 4 ∧ IwInv 0 s ∧ (∀ f, (accO s.m f).1 = 0) ∧ (∀ t ∈ s.R.L, t.f < (k : Int)) ∧ s.R.L.length ≤ k ∧ (s.R.L.length = k → s.R = S) ∧
    RelT k S O ∧ TB 0 S ∧ S.L.map (·.f) = idJ k ∧
    Own wr (slc 3 1 a k c ((idJ k).map (Value.int .i64)) :: IwR b reb s :: RefT P rb 1099511627776 S.L O S.tm S.aw :: P :: Ch W cb (1 + 5 * k) :: old W :: []) ∧ Calm w wr
def GoIRel (W : World) (b rb cb : Nat) (reb : Int) (k : Nat) (a : Option Addr) (c : Nat) (w : World) (v : Value) (wr : World) : Prop :=
  ∃ (i : Nat) (s : Iw) (S : St) (O : List Tg) (P : SP) (d : Int), v = .int .i64 (i : Int) ∧ i ≤ 30 ∧ IwInv i s ∧ (∀ f, (accO s.m f).1 = 0) ∧ PInv i d s.R S ∧ RelT (k + i) S O ∧ s.R.L.map (·.f) = idJ k ∧
    Own wr (slc 3 1 a k c ((idJ k).map (Value.int .i64)) :: IwR b reb s :: RefT P rb 1099511627776 S.L O S.tm S.aw :: P :: Ch W cb (1 + 5 * k + 8 * i) :: old W :: []) ∧ Calm w wr

theorem TB.tinv {S : St} (h : TB 0 S) : TInv 0 S := by
  have htm := h.tm
  have htm0 := h.ok.tm.1
  refine ⟨h.ok, by omega, fun t ht => ?_, fun f => ?_⟩
  · have := h.act t ht
    have := h.ok.ok.rng t ht
    omega
  · have := h.old f
    omega
theorem PInv.same {S : St} (h : TB 0 S) : PInv 0 0 S S := by
  refine ⟨h.tinv, h.tinv, ?_, by omega, fun f => by omega⟩
  have : sh 0 = id := by funext t; unfold sh; simp
  rw [this, List.map_id]
set_option maxHeartbeats 12800000 in
set_option maxRecDepth 100000 in
theorem iwfqGood_walk (a0 : Option Addr) (len0 cap0 : Nat) (z0 : List Int) (w : World) (w0 : IsRow .i64 w a0 len0 cap0 z0) :
    Calls Try.prog 7 #[.slice a0 len0 cap0] w fun e w' => e = .returned (.bool true) ∧ Below w.heap.size w w' := by
  have oW := Own.start w
  go_enter Try.func7, Try.ntmps7
  go_wp2_with fail
  refine (genNew_spec a0 len0 cap0 z0 w0 oW).mono ?_
  rintro e1 v1 ⟨cb, rfl, o1, k1⟩
  have oA := o1.alloc (.cells #[.int .i64 1099511627776, .int .i64 536870912] 2)
  go_wp2_with fail
  refine (next_spec w cb 0 2 _ _ (by omega) (by omega) (by omega) (oA.re [1, 2])).mono ?_
  rintro e2 v2 ⟨x, hx0, hx1, rfl, o2, k2⟩
  obtain ⟨reb, hreb, hc0⟩ : ∃ reb : Int, (reb = 1099511627776 ∨ reb = 536870912) ∧ ∃ j : Nat, x = (j : Int) ∧ j < 2 ∧ v2.cell? ⟨v1.heap.size, j, none⟩ = some (.int .i64 reb) := by
    have : x = 0 ∨ x = 1 := by omega
    rcases this with rfl | rfl
    · exact ⟨_, .inl rfl, 0, rfl, by omega, Own.cell (T := 2) (vs := [.int .i64 1099511627776, .int .i64 536870912]) (o2.up 2) 0⟩
    · exact ⟨_, .inr rfl, 1, rfl, by omega, Own.cell (T := 2) (vs := [.int .i64 1099511627776, .int .i64 536870912]) (o2.up 2) 1⟩
  obtain ⟨j, rfl, hj, hcj⟩ := hc0
  go_wp2_with fail
  refine (iwNew_spec reb (by omega) (by omega) ((o2.re [2] 1))).mono ?_
  rintro e3 v3 ⟨b, rfl, o3, k3⟩
  have oP : Own v3 (st [] :: IwR b reb iw0 :: Ch w cb (0 + 1) :: old w :: []) := (Own.st (m := [])).2 o3
  go_wp2_with fail
  refine (refNew12_spec (P := st []) 1099511627776 (by decide) (by decide) oP).mono ?_
  rintro e4 v4 ⟨rb, rfl, o4, k4⟩
  have K4 := (qcalm_alloc (x := .cells #[.int .i64 1099511627776, .int .i64 536870912] 2) k1).trans (k2.trans (k3.trans k4))
  have hT : GjRel w b rb cb reb w (.slice none 0 0) (.int .i64 0) v4 := ⟨0, iw0, ⟨[], fun _ => 0, 0, 0⟩, [], st [], none, 0, rfl, rfl, by omega, iw0_inv, fun f => rfl, (fun (t : Tg) (ht : t ∈ ([] : List Tg)) => absurd ht (by simp)), Nat.le_refl _, fun _ => rfl, RelT.start, TB.start, rfl, Own.slc_nil (o4.re [2, 0, 1, 3]), K4⟩
  clear o4 K4 oP o3 k1 k2 k3 k4 o2 oA o1 oW hcj
  go_wp2
  go_loopw [8, 9] (fun v8 v9 wr => GjRel w b rb cb reb w v8 v9 wr) (fun _ v _ => 4 - (Lib.intOf v).toNat)
  case atStart => exact hT
  case round =>
    clear hT
    obtain ⟨k, s, S, O, P, a, c, rfl, rfl, hk, hI, hz, hlt, hle, heq, hR, hTB, hSf, oR, kR⟩ := hrel
    by_cases hk4 : k < 4
    · go_wp2_with fail
      refine (weight_spec (1 + 5 * k) (by omega) (oR.re [4, 5])).mono ?_
      rintro e5 v5 ⟨x, hx0, hx1, rfl, o5, k5⟩
      have oB := o5.alloc (.cells #[.int .i64 (k : Int)] 3)
      go_wp2_with (at_builtin; refine wpList_append_slc rfl _ _ rfl Try.intIw rfl (oB.up 3) ⟨v5.heap.size, 0, none⟩ 1 1 [.int .i64 (k : Int)] rfl rfl ?c1 ?c2 ?c3 ?c4 ?c5)
      case c1 => exact Own.news (T := 3) oB
      case c2 => intro u hu; simp at hu; rcases hu with rfl; rfl
      case c3 => unfold maxLen; omega
      case c4 => omega
      case c5 =>
      intro a6 c6 v6 o6 k6
      have K6 := kR.trans (k5.trans ((qcalm_alloc (x := .cells #[.int .i64 (k : Int)] 3) (Calm.refl v5)).trans k6))
      rw [show (idJ k).map (Value.int .i64) ++ [.int .i64 (k : Int)] = (idJ (k + 1)).map (Value.int .i64) from by rw [idJ_succ, List.map_append]; rfl] at o6
      have o6 := o6.re [1] 1
      clear oB k6 k5 kR oR o5
      go_wp2_with fail
      refine (bound_spec (N := 1 + 5 * k + 1) (by omega) (o6.re [1, 2])).mono ?_
      rintro e7 v7 ⟨y, rfl, o7, k7⟩
      go_wp2_with fail
      refine (bound_spec (N := 1 + 5 * k + 1 + 2) (by omega) o7).mono ?_
      rintro e8 v8 ⟨z, rfl, o8, k8⟩
      obtain ⟨j1, j2, j3, j4⟩ := joinI_lt hI hlt (by omega) hx0 hx1 y z
      have hjn := iwJoin_spec (k : Int) x y z (o8.re [3])
      obtain ⟨n1, n2, n3⟩ := join_next hTB hSf (by omega) hx0 hx1
      obtain ⟨er, S', O', hjr, hR', hB⟩ := join_both hR (by omega) 1099511627776 (k : Int) x
      have hjr2 : joinR S (k : Int) x = (0, joinS S (k : Int) x) := by unfold joinR; rw [n1]; rfl
      rw [hjr2] at hjr
      cases hjr
      obtain ⟨s', hs'⟩ : ∃ s', (joinI s (k : Int) x y z).2 = s' := ⟨_, rfl⟩
      obtain ⟨er2, her2⟩ : ∃ er2, (joinI s (k : Int) x y z).1 = er2 := ⟨_, rfl⟩
      rw [hs', her2] at hjn
      rw [hs'] at j1 j2 j3 j4
      have hle' : s'.R.L.length ≤ k + 1 := by
        rcases j4 with j4 | ⟨_, j4⟩
        · rw [j4]; omega
        · omega
      have heq' : s'.R.L.length = k + 1 → s'.R = joinS S (k : Int) x := fun h => by
        rcases j4 with j4 | ⟨j4, j5⟩
        · rw [j4] at h; omega
        · rw [j4, heq (by omega)]
      have HB := Lib.hid hB
      have HALL := Lib.hid (And.intro j1 (And.intro (fun f => j2 f (hz f)) (And.intro j3 (And.intro hle' (And.intro heq' (And.intro hR' (And.intro n2 n3)))))))
      clear hB j1 j2 j3 j4 hle' heq' hR' n1 n2 n3 hjr2 hs' her2 hI hz hlt hle heq hR hTB hSf
      go_wp2_with fail
      refine hjn.mono ?_
      rintro e9 v9 ⟨rfl, o9, k9⟩
      clear hjn
      go_wp2_with fail
      refine (HB.out.ref P rb v9 _ (o9.re [4, 5])).mono ?_
      rintro e10 v10 ⟨P', _, rfl, o10, k10⟩
      have oF := Ch.upto (M := 1 + 5 * (k + 1)) (o10.re [3]) (by omega)
      have KF := K6.trans (k7.trans (k8.trans (k9.trans k10)))
      obtain ⟨y1, y2, y3, y4, y5, y6, y7, y8⟩ := HALL.out
      clear HB HALL o6 o7 o8 o9 o10 k7 k8 k9 k10 K6
      go_wp2
      go_roundw
      case rel => exact ⟨k + 1, s', _, O', P', a6, c6, rfl, by go_num, by omega, y1, y2, y3, y4, y5, y6, y7, y8, oF.re [5, 3, 1, 2, 0, 4], KF⟩
      case measure => simp [Lib.intOf]; omega
    · have hk4e : k = 4 := by omega
      have hd4 : decide ((k : Int) < 4) = false := decide_eq_false (by omega)
      have HK := Lib.hid hk4e
      have hl32 : s.R.L.length ≤ 32 := by omega
      have hac := iwAcc_spec hl32 (oR.re [1])
      have hk4' : k ≤ 4 := by omega
      clear hk4e hk hk4
      by_cases h4 : s.R.L.length = 4
      · have hb : ((s.R.L.length : Int) == 4) = true := by rw [h4]; rfl
        have hb2 : ((s.R.L.length : Int) != 4) = false := by rw [h4]; rfl
        have hsS := heq (by have := HK.out; omega)
        subst hsS
        have hP0 := PInv.same hTB
        clear hlt hle heq hTB
        go_wp2_with fail
        refine hac.mono ?_
        rintro e11 v11 ⟨a', c', rfl, o11, k11⟩
        have hT : GoIRel w b rb cb reb k a c w (.int .i64 0) v11 := ⟨0, s, s.R, O, P, 0, rfl, by omega, hI, hz, hP0, hR, hSf, o11.re [0, 2, 1] 1, kR.trans k11⟩
        clear oR kR hI hz hR hSf hP0 o11 k11 hac h4
        go_wp2
        go_loopw [12] (fun v wr => GoIRel w b rb cb reb k a c w v wr) (fun v _ => 30 - (Lib.intOf v).toNat)
        case atStart => exact hT
        case round =>
          clear hT
          obtain ⟨i, s, S, O, P, d, rfl, hi, hI, hz, hPI, hR, hfl, oR, kR⟩ := hrel
          by_cases hlt : i < 30
          · go_wp2_with fail
            refine (heads_spec (sz := 0) (.inl rfl) (intsAt_slc a k c (idJ k) (idJ_len k).symm) (c := c) (idJ_len k).symm (by omega) (by omega) (oR.re [4, 5])).mono ?_
            rintro e5 v5 ⟨a5, c5, H, hH, rfl, o5, k5⟩
            have hHl : H.length = k := by rw [← idJ_len k, ← hH.1, List.length_map]
            rw [idJ_len] at o5 ⊢
            have hG : GaRel k a5 c5 H (Ch w cb (1 + 5 * k + 8 * i + 2 * k) :: old w :: slc 3 1 a k c ((idJ k).map (Value.int .i64)) :: IwR b reb s :: RefT P rb 1099511627776 S.L O S.tm S.aw :: P :: []) w (.int .i64 0) v5 := ⟨0, rfl, by omega, o5, kR.trans k5⟩
            clear o5 k5 oR kR
            have HHl := Lib.hid hHl
            clear hHl
            go_wp2
            go_loopw [14] (fun v wr => GaRel k a5 c5 H (Ch w cb (1 + 5 * k + 8 * i + 2 * k) :: old w :: slc 3 1 a k c ((idJ k).map (Value.int .i64)) :: IwR b reb s :: RefT P rb 1099511627776 S.L O S.tm S.aw :: P :: []) w v wr) (fun v _ => k - (Lib.intOf v).toNat)
            case atStart => exact hG
            case round =>
              clear hG
              obtain ⟨q, rfl, hq, oG, kG⟩ := hrel
              by_cases hkl : q < k
              · obtain ⟨h, hh⟩ : ∃ h, H[q]? = some h := ⟨_, List.getElem?_eq_getElem (by have := HHl.out; omega)⟩
                obtain ⟨g, rfl, hc, hfz, hgl⟩ := oG.slc_cell (by omega)
                have hgl2 : (flat headC (allGI (H.take q) ++ H.drop q)).length = k * 3 := by
                  have := HHl.out
                  rw [flat_length headC_len, List.length_append]
                  unfold allGI
                  rw [List.length_map, List.length_take, List.length_drop, Nat.min_eq_left (by omega)]
                  congr 1; omega
                obtain ⟨y2, d2⟩ : ∃ y, World.cell? _ ⟨g, q * 3 + 2, none⟩ = some y := ⟨_, hc (q * 3 + 2) _ (List.getElem?_eq_getElem (by omega))⟩
                have hf2 := hfz (q * 3 + 2)
                have oS := oG.slc_set (q * 3 + 2) (.bool true) (by omega)
                rw [mid_setI hh] at oS
                clear hc hfz hh hgl2
                go_wp2
                go_roundw
                case rel => exact ⟨q + 1, by go_num, by omega, oS, kG.trans (qcalm_set (Calm.refl _))⟩
                case measure => simp [Lib.intOf]; omega
              · have hqk : q = k := by omega
                rw [List.take_of_length_le (by rw [HHl.out]; omega), List.drop_eq_nil_of_le (by rw [HHl.out]; omega), List.append_nil] at oG
                have hqd : decide ((q : Int) < (k : Int)) = false := decide_eq_false (by omega)
                have HQK := Lib.hid hqk
                clear hqk hq
                have hGf : (allGI H).map (·.f) = idJ k := by rw [← hH.1]; unfold allGI; rw [List.map_map]; rfl
                have hGl : (allGI H).length = k := by unfold allGI; rw [List.length_map, HHl.out]
                have hGg : ∀ x ∈ allGI H, x.good = true := fun x hx => by unfold allGI at hx; obtain ⟨h, _, rfl⟩ := List.mem_map.1 hx; rfl
                have hft : fitsH s.R.L (allGI H) = true := by
                  unfold fitsH
                  rw [Bool.and_eq_true, decide_eq_true_eq, List.all_eq_true]
                  refine ⟨hGf.trans hfl.symm, fun x hx => ?_⟩
                  unfold allGI at hx
                  obtain ⟨h, hh, rfl⟩ := List.mem_map.1 hx
                  have := hH.2 h hh
                  simp; omega
                have hne : allGI H ≠ [] := fun e => by rw [e] at hGl; have := HK.out; simp at hGl; omega
                generalize allGI H = G at *
                obtain ⟨f1, f2⟩ := fits_len hft
                have hLne : s.R.L ≠ [] := fun e => by rw [e] at f1; simp at f1; exact hne f1
                have hselS := hPI.sel
                obtain ⟨sel, hsel⟩ : ∃ sel, (selT s.R.L).1 = sel := ⟨_, rfl⟩
                have hselL : sel = (lst s.R.L).f := by rw [← hsel]; unfold selT; rw [if_neg hLne]
                have hmem : sel ∈ G.map (·.f) := by rw [f1, hselL]; exact List.mem_map.2 ⟨_, lst_mem hLne, rfl⟩
                obtain ⟨x, hx⟩ : ∃ x, headOf G sel = x := ⟨_, rfl⟩
                have hxm : x ∈ G ∧ x.f = sel := by rw [← hx]; exact headOf_of hmem
                have hxl := f2 x hxm.1
                obtain ⟨p, hp⟩ := List.getElem?_of_mem hxm.1
                have hpk : p < k := by rw [← hGl]; exact (List.getElem?_eq_some_iff.1 hp).1
                have hselp : sel = (p : Int) := by
                  have h1 := congrArg (fun l => l[p]?) hGf
                  simp only [List.getElem?_map, hp, idJ_get hpk] at h1
                  rw [← hxm.2]; exact Option.some.inj h1
                subst hselp
                obtain ⟨ca, ta⟩ := hPI.a.charge (by omega) hLne hxl.1 hxl.2 reb
                rw [← hselL] at ca
                have hc0 : (chargeR reb s.R (p : Int) x.len).1 = 0 := by rw [ca]
                obtain ⟨hce, d', hPI'⟩ := hPI.charge (by omega) reb 1099511627776 hxl.1 hxl.2
                rw [hsel] at hce hPI'
                have hgs := good_step (reb := reb) hz hI.tb.ok.ok hft hne hGg (len := x.len) (by rw [hsel, hx]) (by rw [hsel]; exact hc0)
                rw [hsel] at hgs
                obtain ⟨q1, q2, q3⟩ := hI.step (reb := reb) (by omega) hft hne
                rw [hgs] at q2 q3
                obtain ⟨er, S', O', hcr, hR', hB⟩ := charge_both hR (by omega) 1099511627776 (p : Int) x.len
                rw [hcr] at hPI'
                have hfl' : (chargeR reb s.R (p : Int) x.len).2.L.map (·.f) = idJ k := by
                  have := congrArg (List.map Prod.fst) q3
                  rw [List.map_map, List.map_map] at this
                  exact this.trans hfl
                have hst := fun (w1 : World) (o : Own w1 (IwR b reb s :: slc 41 3 a5 k c5 (flat headC G) :: RefT P rb 1099511627776 S.L O S.tm S.aw :: P :: Ch w cb (1 + 5 * k + 8 * i + 2 * k) :: old w :: slc 3 1 a k c ((idJ k).map (Value.int .i64)) :: [])) => iwStep_spec (c := c5) (hI.ok (by omega) reb) (headsAt_slc (T := 41) a5 k c5 G hGl.symm) hGl.symm hft hne o
                rw [hgs] at hst
                have hsp := selectT_spec hR.ok.ok (oG.re [5, 6])
                rw [hselS, hsel] at hsp
                have hs2 : (selT S.L).2 = 0 := by unfold selT; rw [if_neg (fun e => hLne ((hPI.nil).1 e))]
                obtain ⟨S1, hS1⟩ : ∃ S1, (chargeR reb s.R (p : Int) x.len).2 = S1 := ⟨_, rfl⟩
                rw [hS1] at hst hPI' q2 hfl'
                have HALL := Lib.hid (And.intro q2 (And.intro hPI' (And.intro hR' hfl')))
                have HB := Lib.hid hB
                have HP := Lib.hid hp
                have HGL := Lib.hid hGl
                have HZ := Lib.hid hz
                unfold chV at hst
                dsimp only at hst
                clear hselS hsel hselL hmem hx hxm hc0 hce ca ta hgs q1 q2 q3 hcr hR' hB hPI' hfl' hS1 hft hne hGg hGf hp hGl f1 f2 hLne hI hPI hR hfl hz hH
                go_wp2_with fail
                refine hsp.mono ?_
                rintro e6 v6 ⟨rfl, o6, k6⟩
                clear hsp
                go_wp2_with fail
                refine (hst _ (o6.re [6, 2])).mono ?_
                rintro e7 v7 ⟨rfl, o7, k7⟩
                clear hst
                have oT := o7.alloc (.cells #[.int .i64 (p : Int), .int .i64 (p : Int), .int .i64 1] 33)
                obtain ⟨g, rfl, hc, _, hgl⟩ := (o7.up 1).slc_cell (by omega)
                have d1 := hc (p * 3 + 1) (.int .i64 x.len) (flat_get headC_len G p 1 x HP.out (by omega))
                have hrf := HB.out.ref P rb _ _ (oT.re [3, 4])
                have KT := kG.trans (k6.trans (k7.trans (qcalm_alloc (x := .cells #[.int .i64 (p : Int), .int .i64 (p : Int), .int .i64 1] 33) (Calm.refl v7))))
                clear hc HB k6 k7 kG o6 oG
                go_wp2_with fail
                refine hrf.mono ?_
                rintro e8 v8 ⟨P', _, rfl, o8, k8⟩
                clear hrf
                have oF := Ch.upto (M := 1 + 5 * k + 8 * (i + 1)) (o8.re [5]) (by omega)
                obtain ⟨y1, y2, y3, y4⟩ := HALL.out
                go_wp2
                go_roundw
                case rel => exact ⟨i + 1, _, S', O', P', d', by go_num, by omega, y1, HZ.out, y2, y3, y4, oF.re [3, 5, 7, 4, 1, 2, 0, 6] 2, KT.trans k8⟩
                case measure => simp [Lib.intOf]; omega
          · go_wp2_with fail
            refine (awake25_spec oR).mono ?_
            rintro e8 v8 ⟨rfl, o8, k8⟩
            go_wp2
            go_ret
            exact ⟨rfl, below_ofI (o8.re [5]) (kR.trans k8)⟩
      · have hb : ((s.R.L.length : Int) == 4) = false := by simpa using (by omega : ¬ (s.R.L.length : Int) = 4)
        have hb2 : ((s.R.L.length : Int) != 4) = true := by simpa using (by omega : ¬ (s.R.L.length : Int) = 4)
        clear hI hz hlt hle heq hR hTB hSf h4
        go_wp2_with fail
        refine hac.mono ?_
        rintro e11 v11 ⟨a', c', rfl, o11, k11⟩
        clear hac
        go_wp2_with fail
        refine (awake25_spec o11).mono ?_
        rintro e8 v8 ⟨rfl, o8, k8⟩
        go_wp2
        go_ret
        exact ⟨rfl, below_ofI (o8.re [6]) (kR.trans (k11.trans k8))⟩
end
end Go.Proofs.Ytkmlkpfabkhleaa
