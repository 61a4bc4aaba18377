/- Texts that the law rests on, put together by a program. -/
import Derived.Test.YtkmlkpfabkhleaaGreatCifqLeadE
import Derived.Test.YtkmlkpfabkhleaaGreatCifqLeadD
/- Cifq, plain: a leading flow keeps its part. -/
namespace Go.Proofs.YtkmlkpfabkhleaaGreat
open Go.RowKit
open SP
section
variable {i m N : Nat} {s : Cq} {num den reb : Int} {H : List Head}

/-- The counts stay near the part. -/
def LB (num den : Int) (s : Cq) : Prop := ∀ f, -(num * 4096) ≤ pOf num den (cntO s.n f) ∧ pOf num den (cntO s.n f) ≤ 4096 * (den - num)
theorem pOf_keep (c : Int × Int) (len : Int) : pOf num den (c.1 + len, c.2 + len) = pOf num den c + len * (den - num) := by
  unfold pOf
  dsimp only
  rw [Int.add_mul, Int.mul_add, Int.mul_sub, Int.mul_comm num len]
  omega
theorem pOf_give (c : Int × Int) (len : Int) : pOf num den (c.1 + len, c.2) = pOf num den c - num * len := by
  unfold pOf
  dsimp only
  rw [Int.mul_add]; omega
theorem lagH_pos {D : List Tg} (hm : H.map (·.f) = D.map (·.f)) {p : Int × Int} (hp : p ∈ lagH D H) : 0 < lagO D p.1 := by
  unfold lagH pickH at hp
  obtain ⟨x, hx, rfl⟩ := List.mem_map.1 hp
  obtain ⟨hz, hg⟩ := List.mem_filter.1 hx
  obtain ⟨q, hq⟩ := List.getElem?_of_mem hz
  rw [List.getElem?_zip_eq_some] at hq
  have h1 : (H.map (·.f))[q]? = some x.1.f := by rw [List.getElem?_map, hq.1]; rfl
  have h2 : (D.map (·.f))[q]? = some x.2.1 := by
    rw [← ptsOf_f, List.getElem?_map, hq.2]; rfl
  rw [hm, h2] at h1
  have e : x.2.1 = x.1.f := Option.some.inj h1
  rw [Bool.and_eq_true, decide_eq_true_eq] at hg
  rw [e]; exact hg.2
/-- What a slot does to a flow's counts. -/
theorem lb_step (h : CqInv i m N s) (hi : i ≤ 299) (hN : N ≤ 1000000) (hf : fitsH s.R.L H = true) (hne : H ≠ []) (hn : 0 < num) (hd : num < den) (hb : LB num den s) : LB num den (stepC num den reb s H).2.2 := by
  have h0 : LB num den { s with n := [] } := fun f => by
    show -(num * 4096) ≤ pOf num den (0, 0) ∧ pOf num den (0, 0) ≤ _
    have := Int.mul_pos (show (0 : Int) < 4096 by omega) (show 0 < den - num by omega)
    have := Int.mul_pos hn (show (0 : Int) < 4096 by omega)
    unfold pOf; dsimp only; omega
  obtain ⟨c, hc⟩ : ∃ c, chooseC num den { s with C := eligO s.C (lagH s.D H), X := eligO s.X (allH s.D H) } H (!(allH s.D H).isEmpty) = c := ⟨_, rfl⟩
  obtain ⟨f1, _⟩ := fits_facts hf
  obtain ⟨oC, _, eC, _, h5⟩ := h.step hi hN num den reb hf hne rfl rfl hc
  rcases h5 with ⟨_, e, _⟩ | ⟨j, why, len, hcc, hj0, _, _, l1, l2, hway, e, _⟩
  · rw [e]; exact hb
  · rw [e]
    subst hcc
    intro f
    show -(num * 4096) ≤ pOf num den (cntO (resetC (nMove s.D (lst s.R.L).f j len).2 _) f) ∧ pOf num den (cntO (resetC (nMove s.D (lst s.R.L).f j len).2 _) f) ≤ _
    rw [cnt_next]
    split
    · split
      · rename_i hcb
        rw [cnt_bump]
        dsimp only
        split
        · have hk := hb (lst s.R.L).f
          have m1 := Int.mul_le_mul_of_nonneg_left l2 (show 0 ≤ num by omega)
          have m2 := Int.mul_le_mul_of_nonneg_right l2 (show 0 ≤ den - num by omega)
          have m3 := Int.mul_nonneg (show 0 ≤ len by omega) (show 0 ≤ den - num by omega)
          have m4 := Int.mul_nonneg (show 0 ≤ num by omega) (show 0 ≤ len by omega)
          unfold countC at hcb
          dsimp only at hcb
          rw [Bool.and_eq_true, Bool.or_eq_true, Bool.and_eq_true, decide_eq_true_eq, decide_eq_true_eq, decide_eq_true_eq] at hcb
          rcases hcb.2 with hw | ⟨hw1, hkk⟩
          · have hw2 : why = 2 := hw
            subst hw2
            have hp0 : ¬ pOf num den (cntO s.n (lst s.R.L).f) ≤ 0 := fun hle => by
              have := (keeps_iff (num := num) (den := den) (cntO s.n (lst s.R.L).f)).2 hle
              rw [(choose_why2 hc).2] at this; cases this
            split
            · rename_i hkj
              exfalso
              -- the order serves a lagging flow
              have hl := (choose_why2 hc).1
              have hjl : j = leastF (eligO s.C (lagH s.D H)).el (eligO s.C (lagH s.D H)).tg := by
                rcases hway with ⟨hw1, _⟩ | ⟨_, hj⟩ | ⟨hw1, _⟩
                · omega
                · exact hj
                · omega
              have hmem := oC.least (by rw [← hjl]; exact hj0)
              rw [← hjl, eC] at hmem
              obtain ⟨p, hp, hpj⟩ := List.mem_map.1 hmem
              have := lagH_pos (f1.trans h.fl.symm) hp
              rw [hpj, ← hkj] at this
              dsimp only at hl
              omega
            · rw [pOf_give]; omega
          · have hle := (keeps_iff (num := num) (den := den) (cntO s.n (lst s.R.L).f)).1 hkk
            split
            · rw [pOf_keep]; omega
            · rename_i hkj
              rcases hway with ⟨_, hj⟩ | ⟨hw2, _⟩ | ⟨hw2, _⟩
              · exact absurd hj.symm hkj
              · omega
              · omega
        · exact hb f
      · exact hb f
    · exact h0 f
/-- A slot in which the flow leads and can send: what it was charged and what it got since an interval began. -/
theorem lead_step (h : CqInv i m N s) (hi : i ≤ 299) (hN : N ≤ 1000000) (hf : fitsH s.R.L H = true) (hne : H ≠ []) (hn : 0 < num) (hd : num < den) (hb : LB num den s) {f : Int} (hl : lagO s.D f < 0) (hg : (headOf H f).good = true)
    {ch re : Int} (hq : pOf num den (cntO s.n f) - 4096 * (den - num) ≤ pOf num den (ch, re)) {c : Chc} (hc : (stepC num den reb s H).1 = c) (hsv : 0 ≤ c.sv) :
    -(4096 * den) ≤ pOf num den (if c.ch = f then ch + (headOf H c.sv).len else ch, if c.sv = f then re + (headOf H f).len else re) ∧
      (lagO (stepC num den reb s H).2.2.D f < 0 → pOf num den (cntO (stepC num den reb s H).2.2.n f) - 4096 * (den - num) ≤ pOf num den (if c.ch = f then ch + (headOf H c.sv).len else ch, if c.sv = f then re + (headOf H f).len else re)) := by
  obtain ⟨f1, _⟩ := fits_facts hf
  have hL : s.R.L ≠ [] := fun e => by rw [e] at f1; simp at f1; exact hne f1
  obtain ⟨c0, hc0⟩ : ∃ c0, chooseC num den { s with C := eligO s.C (lagH s.D H), X := eligO s.X (allH s.D H) } H (!(allH s.D H).isEmpty) = c0 := ⟨_, rfl⟩
  obtain ⟨oC, _, eC, _, h5⟩ := h.step hi hN num den reb hf hne rfl rfl hc0
  rcases h5 with ⟨_, e, _⟩ | ⟨j, why, len, hcc, hj0, hlen, _, l1, l2, hway, e, _⟩
  · rw [e] at hc
    dsimp only at hc
    rw [← hc] at hsv
    exact absurd hsv (by decide)
  · rw [e] at hc
    dsimp only at hc
    rw [hcc] at hc
    rw [e]
    subst hc
    dsimp only
    rw [hlen]
    have hdp : 0 < 4096 * (den - num) := Int.mul_pos (by omega) (by omega)
    have hnp : 0 < num * 4096 := Int.mul_pos hn (by omega)
    have e4 : 4096 * den = num * 4096 + 4096 * (den - num) := by rw [Int.mul_sub, Int.mul_comm num]; omega
    have hbf := hb f
    have hnx : pOf num den (cntO (nextC num den reb s (eligO s.C (lagH s.D H)) (eligO s.X (allH s.D H)) c0 len).n f) = (if lagO (nMove s.D c0.ch c0.sv len).2 f < 0 then pOf num den (cntO (if countC num den s c0 = true then bumpC s.n c0 len else s.n) f) else 0) := by
      show pOf num den (cntO (resetC (nMove s.D c0.ch c0.sv len).2 _) f) = _
      rw [cnt_next]
      split
      · rfl
      · unfold pOf; dsimp only; omega
    rw [hnx]
    -- the counts before those of flows that no longer lead go
    have key : (-(num * 4096) ≤ pOf num den (cntO (if countC num den s c0 = true then bumpC s.n c0 len else s.n) f)) ∧
        pOf num den (cntO (if countC num den s c0 = true then bumpC s.n c0 len else s.n) f) - 4096 * (den - num) ≤ pOf num den (if (lst s.R.L).f = f then ch + len else ch, if j = f then re + (headOf H f).len else re) := by
      have m2 := Int.mul_nonneg (show 0 ≤ len by omega) (show 0 ≤ den - num by omega)
      have m4 := Int.mul_nonneg (show 0 ≤ num by omega) (show 0 ≤ len by omega)
      have m5 := Int.mul_le_mul_of_nonneg_left l2 (show 0 ≤ num by omega)
      by_cases hk : (lst s.R.L).f = f
      · rw [if_pos hk]
        have hcho := hc0
        unfold chooseC at hcho
        dsimp only at hcho
        rw [(selT_mem hL).1, hk] at hcho
        dsimp only at hcho
        rw [hg, hcc] at hcho
        have hway2 : (why = 1 ∧ j = f) ∨ (why = 2 ∧ keepsO num den (cntO s.n f) = false ∧ j ≠ f) := by
          by_cases hw2 : why = 2
          · right
            have hc2 := hc0
            rw [hcc, hw2] at hc2
            have h9 := choose_why2 hc2
            rw [hk] at h9
            refine ⟨hw2, h9.2, fun hjf => ?_⟩
            have hjl : j = leastF (eligO s.C (lagH s.D H)).el (eligO s.C (lagH s.D H)).tg := by
              rcases hway with ⟨hw1, _⟩ | ⟨_, hj⟩ | ⟨hw1, _⟩
              · omega
              · exact hj
              · omega
            have hmem := oC.least (by rw [← hjl]; exact hj0)
            rw [← hjl, eC] at hmem
            obtain ⟨p, hp, hpj⟩ := List.mem_map.1 hmem
            have := lagH_pos (f1.trans h.fl.symm) hp
            rw [hpj, hjf] at this
            omega
          · left
            rcases hway with ⟨hw1, hj⟩ | ⟨hw1, _⟩ | ⟨hw1, _⟩
            · exact ⟨hw1, hj.trans hk⟩
            · exfalso
              have hw3 : why = 3 := by omega
              split at hcho
              · have := congrArg Chc.why hcho; dsimp only at this; omega
              · split at hcho
                · have := congrArg Chc.why hcho; dsimp only at this; simp at this; omega
                · have := congrArg Chc.why hcho; simp at this; omega
            · exfalso
              split at hcho
              · have := congrArg Chc.why hcho; dsimp only at this; omega
              · split at hcho
                · have := congrArg Chc.why hcho; dsimp only at this; simp at this; omega
                · have := congrArg Chc.why hcho; simp at this; omega
        have hld : decide (lagO s.D f < 0) = true := by simpa using hl
        rcases hway2 with ⟨hw1, hj⟩ | ⟨hw2, hkp, hjf⟩
        · rw [if_pos hj]
          rw [hj] at hlen
          rw [hlen]
          have hpk := pOf_keep (num := num) (den := den) (ch, re) len
          dsimp only at hpk
          rw [hpk]
          cases hkk : keepsO num den (cntO s.n f) with
          | true =>
            have hcb : countC num den s c0 = true := by rw [hcc]; unfold countC; dsimp only; rw [hk, hld, hw1, hkk]; rfl
            have hle := (keeps_iff (num := num) (den := den) (cntO s.n f)).1 hkk
            rw [if_pos hcb, cnt_bump, hcc]
            dsimp only
            rw [if_pos hk.symm, if_pos (hk.trans hj.symm), hk, pOf_keep]
            omega
          | false =>
            have hcb : countC num den s c0 = false := by rw [hcc]; unfold countC; dsimp only; rw [hk, hld, hw1, hkk]; rfl
            rw [if_neg (by rw [hcb]; simp)]
            omega
        · rw [if_neg hjf]
          have hcb : countC num den s c0 = true := by rw [hcc]; unfold countC; dsimp only; rw [hk, hld, hw2]; rfl
          have hp0 : ¬ pOf num den (cntO s.n f) ≤ 0 := fun hle => by
            have := (keeps_iff (num := num) (den := den) (cntO s.n f)).2 hle
            rw [hkp] at this; cases this
          have hpg := pOf_give (num := num) (den := den) (ch, re) len
          dsimp only at hpg
          rw [hpg, if_pos hcb, cnt_bump, hcc]
          dsimp only
          rw [if_pos hk.symm, if_neg (fun e => hjf (e.symm.trans hk)), hk, pOf_give]
          omega
      · rw [if_neg hk]
        have hsame : cntO (if countC num den s c0 = true then bumpC s.n c0 len else s.n) f = cntO s.n f := by
          split
          · rw [cnt_bump, hcc]; dsimp only; rw [if_neg (Ne.symm hk)]
          · rfl
        rw [hsame]
        have hup : pOf num den (ch, re) ≤ pOf num den (ch, if j = f then re + (headOf H f).len else re) := by
          split
          · rename_i hjf
            have hlf : (headOf H f).len = len := by rw [← hjf]; exact hlen
            rw [hlf]
            unfold pOf; dsimp only
            rw [Int.add_mul]
            have := Int.mul_nonneg (show 0 ≤ len by omega) (show 0 ≤ den by omega)
            omega
          · exact Int.le_refl _
        omega
    refine ⟨by omega, fun hl2 => ?_⟩
    change lagO (nMove s.D c0.ch c0.sv len).2 f < 0 at hl2
    rw [if_pos hl2]
    exact key.2
end
end Go.Proofs.YtkmlkpfabkhleaaGreat

/- Cifq: the accounts. -/
namespace Go.Proofs.YtkmlkpfabkhleaaGreat
open Go.RowKit
open SP
section
variable {w w' : World} {R : List SP} {b rp lp cp xp nb N : Nat} {num den reb : Int} {s : Cq} {Sp : SP}

def accC (s : Cq) (t : Tg) : List Value := [.int .i64 t.f, .int .i64 t.w, .int .i64 (lagO s.D t.f), .int .i64 t.s, .int .i64 (cntO s.n t.f).1, .int .i64 (cntO s.n t.f).2, .int .i64 (tget s.C.tg t.f), .int .i64 (tget s.X.tg t.f), .int .i64 0, .int .i64 0]
theorem accC_len (s : Cq) (t : Tg) : (accC s t).length = 10 := rfl
theorem Tryz.accT : ElemT Tryz.prog 55 54 10 80 := ElemT.mk' (z := .agg #[.int .i64 0, .int .i64 0, .int .i64 0, .int .i64 0, .int .i64 0, .int .i64 0, .int .i64 0, .int .i64 0, .int .i64 0, .int .i64 0]) Tryz.underlying55 (by kernel_rfl) rfl (by decide)
theorem ordTag_still {C : Ord} (k : Int) (o : Own w (OrdR b reb C :: R)) : Calls Tryz.prog 68 #[.pointer (some ⟨b, 0, none⟩), .int .i64 k] w (IsRet (.int .i64 (tget C.tg k)) w) := by
  obtain ⟨eb, tb, o1⟩ := OrderR.iff.1 o
  have c2 := o1.cell 2
  have hlk := lookIL tb (o1.up 2) k false
  simp only [Bool.false_eq_true, if_false] at hlk
  go_enter Tryz.func68, Tryz.ntmps68
  go_wp2
  go_ret
  exact ⟨rfl, rfl⟩

def AcRel (b : Nat) (num den reb : Int) (rp lp cp xp nb N : Nat) (s : Cq) (at_ : Option Addr) (tc : Nat) (R : List SP) (w : World) (v3 v15 : Value) (wr : World) : Prop :=
  ∃ (i : Nat) (a' : Option Addr) (c' : Nat), v15 = .int .i64 (i : Int) ∧ i ≤ s.R.L.length ∧ v3 = .slice a' i c' ∧
    Own wr (slc 54 10 a' i c' (flat (accC s) (s.R.L.take i)) :: slc 128 3 at_ s.R.L.length tc (flat tagC s.R.L) :: SfqR rp reb s.R :: CqC b num den rp lp cp xp nb :: LagR lp N s.D :: mpI cntV nb s.n :: OrdR cp reb s.C :: OrdR xp reb s.X :: R) ∧ Calm w wr
def AccPost (b : Nat) (num den reb : Int) (N : Nat) (s : Cq) (R : List SP) (w : World) (e : Ending) (w' : World) : Prop :=
  ∃ (a : Option Addr) (c : Nat), Ret (.slice a s.R.L.length c) (slc 54 10 a s.R.L.length c (flat (accC s) s.R.L) :: CqF b num den reb N s :: R) w e w'

set_option maxHeartbeats 6400000 in
set_option maxRecDepth 100000 in
theorem cqAcc_spec (hl : s.R.L.length ≤ 32) (o : Own w (CqF b num den reb N s :: R)) :
    Calls Tryz.prog 20 #[.pointer (some ⟨b, 0, none⟩)] w (AccPost b num den reb N s R w) := by
  obtain ⟨rp, lp, cp, xp, nb, o1⟩ := CqF.iff.1 o
  have c2 := o1.cell 2
  have cl := o1.celLt
  go_enter Tryz.func20, Tryz.ntmps20
  go_wp2_with fail
  refine (sfqTags_spec (o1.re [1])).mono ?_
  rintro e2 w2 ⟨at_, tc, rfl, o2, k2⟩
  have hT : AcRel b num den reb rp lp cp xp nb N s at_ tc R w (.slice none 0 0) (.int .i64 0) w2 := ⟨0, none, 0, rfl, by omega, rfl, Own.slc_nil o2, k2⟩
  clear o2 k2 c2 cl o1 o
  go_wp2
  go_loopw [3, 15] (fun v3 v15 wr => AcRel b num den reb rp lp cp xp nb N s at_ tc R w v3 v15 wr) (fun _ v _ => s.R.L.length - (Lib.intOf v).toNat)
  case atStart => exact hT
  case round =>
    clear hT
    obtain ⟨i, a', c', rfl, hi, rfl, oR, kR⟩ := hrel
    by_cases hlt : i < s.R.L.length
    · obtain ⟨t, ht⟩ : ∃ t, s.R.L[i]? = some t := ⟨_, List.getElem?_eq_getElem (by omega)⟩
      have htk : s.R.L.take (i + 1) = s.R.L.take i ++ [t] := by rw [List.take_add_one, ht]; rfl
      have HTK := Lib.hid htk
      obtain ⟨g, rfl, hc, _, _⟩ := (oR.up 1).slc_cell (by omega)
      have d0 := hc (i * 3 + 0) _ (flat_get tagC_len s.R.L i 0 t ht (by omega))
      rw [Nat.add_zero] at d0
      have d1 := hc (i * 3 + 1) _ (flat_get tagC_len s.R.L i 1 t ht (by omega))
      have d2 := hc (i * 3 + 2) _ (flat_get tagC_len s.R.L i 2 t ht (by omega))
      change wr.cell? ⟨g, i * 3, none⟩ = some (.int .i64 t.f) at d0
      change wr.cell? ⟨g, i * 3 + 1, none⟩ = some (.int .i64 t.w) at d1
      change wr.cell? ⟨g, i * 3 + 2, none⟩ = some (.int .i64 t.s) at d2
      have HAC := Lib.hid (show flat (accC s) (s.R.L.take i) ++ accC s t = flat (accC s) (s.R.L.take (i + 1)) from by rw [htk, flat_append]; show _ = _ ++ (accC s t ++ []); rw [List.append_nil])
      clear hc ht htk
      have oA := oR.alloc (.cells #[.int .i64 t.f, .int .i64 t.w, .int .i64 t.s] 128)
      have x3 := (oA.up 4).cell 3
      have xl := (oA.up 4).celLt
      have y0 := Own.cell (T := 128) (vs := [.int .i64 t.f, .int .i64 t.w, .int .i64 t.s]) oA 0
      obtain ⟨z, hz⟩ := lagV_eq s.D t.f
      have hcall := lagLag_spec t.f (oA.drew.re [5])
      rw [hz] at hcall
      clear hz
      go_wp2
      go_region_held3 (fun w' => w'.cell? ⟨b, 3, none⟩ = some (.pointer (some ⟨lp, 0, none⟩)) ∧ w'.cell? ⟨wr.heap.size, 0, none⟩ = some (.int .i64 t.f)) (go_keep) (first | (go_at_call 67; (with_reducible refine hcall.mono ?_); rintro e3 w3 ⟨rfl, o3, k3⟩; have z3 := (o3.up 5).cell 3; have zl := (o3.up 5).celLt; have z0 := Own.cell (T := 128) (vs := [.int .i64 t.f, .int .i64 t.w, .int .i64 t.s]) (o3.up 1) 0))
      have K3 : Calm w w3 := kR.trans ((qcalm_drew (qcalm_alloc (Calm.refl wr))).trans k3)
      clear hcall k3 x3 xl y0 oA z3 zl z0 d0 d1 d2
      have hlk := fun (w : World) (R : List SP) (o : Own w (mpI cntV nb s.n :: R)) => lookC o t.f
      unfold cntV at hlk
      have hacc : accC s t = [.int .i64 t.f, .int .i64 t.w, .int .i64 (lagO s.D t.f), .int .i64 t.s, .int .i64 (cntO s.n t.f).1, .int .i64 (cntO s.n t.f).2, .int .i64 (tget s.C.tg t.f), .int .i64 (tget s.X.tg t.f), .int .i64 0, .int .i64 0] := rfl
      have hac := HAC.out
      rw [hacc] at hac
      generalize cntO s.n t.f = cn at *
      obtain ⟨cr, cl⟩ := cn
      dsimp only at hlk hac
      have HAC := Lib.hid hac
      have HLK := Lib.hid hlk
      clear hlk hacc hac
      go_wp2
      refine wp_region_draws (fun L v wc => Own wc (Pb (L 7) (L 8) (v 7) 108 [.int .i64 0, .int .i64 0] [.int .i64 cr, .int .i64 cl] :: LagR lp N s.D :: cel wr.heap.size 128 [.int .i64 t.f, .int .i64 t.w, .int .i64 t.s] :: slc 54 10 a' i c' (flat (accC s) (s.R.L.take i)) :: slc 128 3 (some ⟨g, 0, none⟩) s.R.L.length tc (flat tagC s.R.L) :: SfqR rp reb s.R :: CqC b num den rp lp cp xp nb :: mpI cntV nb s.n :: OrdR cp reb s.C :: OrdR xp reb s.X :: R) ∧ Calm w wc ∧ OVals (fun i => ([some (.pointer (some ⟨b, 0, none⟩)), some (.pointer (some ⟨b, 0, none⟩)), some (.pointer (some ⟨b, 6, none⟩)), some (.map (some nb)), some (.pointer (some ⟨wr.heap.size, 0, none⟩)), some (.int .i64 t.f), some (.agg #[.int .i64 cr, .int .i64 cl]), none, none] : List (Option Value)).getD i none) L v) (by kernel_rfl) (by kernel_rfl) (by kernel_rfl) ?h0 ?step ?fin
      case h0 => exact ⟨Pb.no o3.drew, qcalm_drew K3, OVals.no⟩
      case step =>
        refine ⟨DrawStep.mk rfl ?_, DrawStep.mk rfl ?_, DrawStep.mk rfl ?_, DrawStep.mk rfl ?_, DrawStep.mk rfl ?_, DrawStep.mk rfl ?_, DrawStep.mk rfl ?_, DrawStep.mk rfl ?_, DrawStep.mk rfl ?_, trivial⟩
        all_goals intro L v actZ wc hL hd hA hI K' hK
        all_goals obtain ⟨oD, kD, hv⟩ := hI
        all_goals simp [Region.binds] at hd
        all_goals have HV := Lib.hid hv
        all_goals clear hv
        · have c0_ := hA.base 0 (by rfl)
          simp only [List.getElem?_toArray, List.getElem?_cons_zero, Option.getD_some] at c0_
          go_simp
          exact hK.out (.pointer (some ⟨b, 0, none⟩)) _ ⟨oD, kD, HV.out.put 0 (fun _ h => some_eq h)⟩
        · have h0_ : L 0 = true := by simp [hd]
          have c29_ : actZ.tmps[29]?.getD undef = .pointer (some ⟨b, 0, none⟩) := (hA.get 0 h0_).trans (HV.out 0 _ rfl h0_)
          go_simp
          exact hK.out (.pointer (some ⟨b, 0, none⟩)) _ ⟨oD, kD, HV.out.put 1 (fun _ h => some_eq h)⟩
        · have h1_ : L 1 = true := by simp [hd]
          have c30_ : actZ.tmps[30]?.getD undef = .pointer (some ⟨b, 0, none⟩) := (hA.get 1 h1_).trans (HV.out 1 _ rfl h1_)
          go_simp
          exact hK.out (.pointer (some ⟨b, 6, none⟩)) _ ⟨oD, kD, HV.out.put 2 (fun _ h => some_eq h)⟩
        · have h2_ : L 2 = true := by simp [hd]
          have c31_ : actZ.tmps[31]?.getD undef = .pointer (some ⟨b, 6, none⟩) := (hA.get 2 h2_).trans (HV.out 2 _ rfl h2_)
          have u_ := (oD.up 6).cell 6
          go_simp
          exact hK.out (.map (some nb)) _ ⟨oD, kD, HV.out.put 3 (fun _ h => some_eq h)⟩
        · have c5_ := hA.base 5 (by rfl)
          simp only [List.getElem?_toArray, List.getElem?_cons_zero, List.getElem?_cons_succ, Option.getD_some] at c5_
          go_simp
          exact hK.out (.pointer (some ⟨wr.heap.size, 0, none⟩)) _ ⟨oD, kD, HV.out.put 4 (fun _ h => some_eq h)⟩
        · have h4_ : L 4 = true := by simp [hd]
          have c33_ : actZ.tmps[33]?.getD undef = .pointer (some ⟨wr.heap.size, 0, none⟩) := (hA.get 4 h4_).trans (HV.out 4 _ rfl h4_)
          have u_ := Own.cell (T := 128) (vs := [.int .i64 t.f, .int .i64 t.w, .int .i64 t.s]) (oD.up 2) 0
          go_simp
          exact hK.out (.int .i64 t.f) _ ⟨oD, kD, HV.out.put 5 (fun _ h => some_eq h)⟩
        · have h3_ : L 3 = true := by simp [hd]
          have c32_ : actZ.tmps[32]?.getD undef = .map (some nb) := (hA.get 3 h3_).trans (HV.out 3 _ rfl h3_)
          have h5_ : L 5 = true := by simp [hd]
          have c34_ : actZ.tmps[34]?.getD undef = .int .i64 t.f := (hA.get 5 h5_).trans (HV.out 5 _ rfl h5_)
          have u_ := HLK.out _ _ (oD.up 7)
          go_simp
          exact hK.out (.agg #[.int .i64 cr, .int .i64 cl]) _ ⟨oD, kD, HV.out.put 6 (fun _ h => some_eq h)⟩
        · rw [hL] at oD
          go_simp
          exact hK.out _ _ ⟨Pb.new oD, qcalm_alloc kD, HV.out.put 7 (fun _ h => by cases h)⟩
        · have h7_ : L 7 = true := by simp [hd]
          have c8_ := hA.get 7 h7_
          have h6_ : L 6 = true := by simp [hd]
          have c35_ : actZ.tmps[35]?.getD undef = .agg #[.int .i64 cr, .int .i64 cl] := (hA.get 6 h6_).trans (HV.out 6 _ rfl h6_)
          rw [h7_, hL] at oD
          obtain ⟨gN, hgN, oN⟩ := Pb.val oD
          rw [hgN] at c8_
          have hgN := Lib.hid hgN
          have n0_ := oN.cell 0
          have n1_ := oN.cell 1
          have nf_ := oN.frozen
          have nl_ := oN.celLt
          go_simp
          have oY := (oN.setCell 0 (.int .i64 cr)).setCell 1 (.int .i64 cl)
          have oQ := Pb.put (l := L 7) (v := v 7) (zs := [.int .i64 0, .int .i64 0]) oY h7_ hgN.out
          exact hK.out undef _ ⟨oQ, qcalm_set (qcalm_set kD), HV.out.put 8 (fun _ h => by cases h)⟩
      case fin =>
        rintro L v wc hall ⟨oD, kD, hv⟩
        rw [hall 7 (by decide), hall 8 (by decide)] at oD
        obtain ⟨gN, hgN, oN⟩ := Pb.got oD
        clear hv hall oD K3
        simp only [putAll, Act.put, List.setIfInBounds_toArray, List.set_cons_zero, List.set_cons_succ]
        have b4 := (oN.up 6).cell 4
        have b5 := (oN.up 6).cell 5
        have bl := (oN.up 6).celLt
        have t0 := Own.cell (T := 128) (vs := [.int .i64 t.f, .int .i64 t.w, .int .i64 t.s]) (oN.up 2) 0
        have t1 := Own.cell (T := 128) (vs := [.int .i64 t.f, .int .i64 t.w, .int .i64 t.s]) (oN.up 2) 1
        have t2 := Own.cell (T := 128) (vs := [.int .i64 t.f, .int .i64 t.w, .int .i64 t.s]) (oN.up 2) 2
        have tl := Own.celLt (T := 128) (vs := [.int .i64 t.f, .int .i64 t.w, .int .i64 t.s]) (oN.up 2)
        have n0 := oN.cell 0
        have n1 := oN.cell 1
        have nl := oN.celLt
        have ct1 := ordTag_still t.f (oN.drew.re [8])
        have ct2 := ordTag_still t.f (oN.drew.re [9])
        generalize lagO s.D t.f = lg at *
        generalize tget s.C.tg t.f = gc at *
        generalize tget s.X.tg t.f = gx at *
        have oX := (oN.alloc (.cells #[.int .i64 t.f, .int .i64 t.w, .int .i64 lg, .int .i64 t.s, .int .i64 cr, .int .i64 cl, .int .i64 gc, .int .i64 gx, .int .i64 0, .int .i64 0] 54)).drew
        have hnw := Own.news (T := 54) oX
        go_wp2
        go_region_held3 (fun w' => w'.cell? ⟨b, 4, none⟩ = some (.pointer (some ⟨cp, 0, none⟩)) ∧ w'.cell? ⟨b, 5, none⟩ = some (.pointer (some ⟨xp, 0, none⟩)) ∧ w'.cell? ⟨wr.heap.size, 0, none⟩ = some (.int .i64 t.f) ∧ w'.cell? ⟨wr.heap.size, 1, none⟩ = some (.int .i64 t.w) ∧ w'.cell? ⟨wr.heap.size, 2, none⟩ = some (.int .i64 t.s) ∧ w'.cell? ⟨gN, 0, none⟩ = some (.int .i64 cr) ∧ w'.cell? ⟨gN, 1, none⟩ = some (.int .i64 cl)) (go_keep) (first
          | (refine step_append_src rfl _ _ rfl Tryz.accT rfl (oX.up 4) rfl ⟨_, _, rfl, rfl, by intro u hu; simp only [List.mem_cons, List.not_mem_nil, or_false] at hu; rcases hu with rfl | rfl | rfl | rfl | rfl | rfl | rfl | rfl | rfl | rfl <;> rfl, .inr ⟨_, rfl, hnw⟩⟩ (by unfold maxLen; omega) (by omega) ?_; intro a2 c2 w5 o5 k5; have f4 := (o5.up 7).cell 4; have f5 := (o5.up 7).cell 5; have e0 := Own.cell (T := 128) (vs := [.int .i64 t.f, .int .i64 t.w, .int .i64 t.s]) (o5.up 4) 0; have e1 := Own.cell (T := 128) (vs := [.int .i64 t.f, .int .i64 t.w, .int .i64 t.s]) (o5.up 4) 1; have e2 := Own.cell (T := 128) (vs := [.int .i64 t.f, .int .i64 t.w, .int .i64 t.s]) (o5.up 4) 2; have m0 := (o5.up 2).cell 0; have m1 := (o5.up 2).cell 1)
          | (go_at_call 68; (with_reducible refine Calls.mono ct1 ?_); rintro _ _ ⟨rfl, rfl⟩)
          | (go_at_call 68; (with_reducible refine Calls.mono ct2 ?_); rintro _ _ ⟨rfl, rfl⟩))
        have K5 := (qcalm_drew (qcalm_alloc (x := .cells #[.int .i64 t.f, .int .i64 t.w, .int .i64 lg, .int .i64 t.s, .int .i64 cr, .int .i64 cl, .int .i64 gc, .int .i64 gx, .int .i64 0, .int .i64 0] 54) kD)).trans k5
        rw [HAC.out] at o5
        go_wp2
        go_roundw
        case rel => exact ⟨i + 1, a2, c2, by go_num, by omega, rfl, o5.re [1, 2, 4, 0, 5, 6, 7, 3, 8, 9, 10] 3, K5⟩
        case measure => simp [Lib.intOf]; omega
    · have hin : i = s.R.L.length := by omega
      subst hin
      rw [List.take_length] at oR
      go_wp2
      go_ret
      exact ⟨a', c', rfl, (Own.swap (CqF.iff.2 ⟨rp, lp, cp, xp, nb, oR.re [1, 3, 2, 4, 5, 6, 7, 0] 1⟩)), kR⟩
end
end Go.Proofs.YtkmlkpfabkhleaaGreat

/- Heads that are drawn. -/
namespace Go.Proofs.YtkmlkpfabkhleaaGreat
open Go.RowKit
open SP
section
variable {W w w' : World} {R : List SP} {b N : Nat} {Sp : SP}

def IntsAt (Sp : SP) (a : Option Addr) (F : List Int) : Prop := ∀ (w : World) (R : List SP), Own w (Sp :: R) → ∀ (i : Nat) (x : Int), F[i]? = some x → ∃ g, a = some ⟨g, 0, none⟩ ∧ w.cell? ⟨g, i, none⟩ = some (.int .i64 x)
theorem intsAt_slc {T : TypeId} (a : Option Addr) (n c : Nat) (F : List Int) (hn : n = F.length) : IntsAt (slc T 1 a n c (F.map (Value.int .i64))) a F := by
  intro w R o i x h
  have := (List.getElem?_eq_some_iff.1 h).1
  obtain ⟨g, h1, hc, _, _⟩ := o.slc_cell (by omega)
  exact ⟨g, h1, hc i _ (by rw [List.getElem?_map, h]; rfl)⟩
theorem Tryz.headT : ElemT Tryz.prog 32 35 3 24 := ElemT.mk' (z := .agg #[.int .i64 0, .int .i64 0, .bool false]) Tryz.underlying32 (by kernel_rfl) rfl (by decide)

def HdOk (sz : Int) (F : List Int) (H : List Head) : Prop := H.map (·.f) = F ∧ ∀ h ∈ H, 1 ≤ h.len ∧ h.len ≤ 4096 ∧ (sz ≠ 0 → h.len = sz)
def HdRel (W : World) (b N : Nat) (sz : Int) (F : List Int) (Sp : SP) (R : List SP) (w : World) (v7 v8 : Value) (wr : World) : Prop :=
  ∃ (i : Nat) (a' : Option Addr) (c' : Nat) (H : List Head), v8 = .int .i64 (i : Int) ∧ i ≤ F.length ∧ v7 = .slice a' i c' ∧ HdOk sz (F.take i) H ∧
    Own wr (slc 35 3 a' i c' (flat headC H) :: Ch W b (N + 2 * i) :: old W :: Sp :: R) ∧ Calm w wr
def HeadsPost (W : World) (b N : Nat) (sz : Int) (F : List Int) (Sp : SP) (R : List SP) (w : World) (e : Ending) (w' : World) : Prop :=
  ∃ (a : Option Addr) (c : Nat) (H : List Head), HdOk sz F H ∧ Ret (.slice a F.length c) (slc 35 3 a F.length c (flat headC H) :: Ch W b (N + 2 * F.length) :: old W :: Sp :: R) w e w'

set_option maxHeartbeats 3200000 in
set_option maxRecDepth 100000 in
theorem heads_spec {sz : Int} (hsz : sz = 0 ∨ 1 ≤ sz ∧ sz ≤ 4096) {F : List Int} {a : Option Addr} {n c : Nat} (hF : IntsAt Sp a F) (hn : n = F.length) (hl : n ≤ 32) (hN : N ≤ 800000000) (o : Own w (Ch W b N :: old W :: Sp :: R)) :
    Calls Tryz.prog 11 #[.pointer (some ⟨b, 0, none⟩), .slice a n c, .int .i64 sz] w (HeadsPost W b N sz F Sp R w) := by
  have Hn := Lib.hid hn
  have hT : HdRel W b N sz F Sp R w (.slice none 0 0) (.int .i64 0) w := ⟨0, none, 0, [], rfl, by omega, rfl, ⟨rfl, by simp⟩, Own.slc_nil o, Calm.refl w⟩
  clear o hn
  go_enter Tryz.func11, Tryz.ntmps11
  go_wp2
  go_loopw [7, 8] (fun v7 v8 wr => HdRel W b N sz F Sp R w v7 v8 wr) (fun _ v _ => n - (Lib.intOf v).toNat)
  case atStart => exact hT
  case round =>
    clear hT
    obtain ⟨i, a', c', H, rfl, hi, rfl, hH, oR, kR⟩ := hrel
    by_cases hlt : i < n
    · obtain ⟨x, hx⟩ : ∃ x, F[i]? = some x := ⟨_, List.getElem?_eq_getElem (by have := Hn.out; omega)⟩
      have hiN : N + 2 * i ≤ 800000100 := by omega
      have HX := Lib.hid hx
      clear hx
      obtain ⟨Z, hZ⟩ : ∃ Z, (sz == 0) = Z := ⟨_, rfl⟩
      go_upto_if 18 with fail
      go_cut [9] (fun v wc => ∃ l : Int, 1 ≤ l ∧ l ≤ 4096 ∧ (sz ≠ 0 → l = sz) ∧ v = .int .i64 l ∧ Own wc (slc 35 3 a' i c' (flat headC H) :: Ch W b (N + 2 * i + 1) :: old W :: Sp :: R) ∧ Calm w wc)
      case first =>
        cases Z with
        | true =>
          have h0 := Lib.hid (show sz = 0 by simpa using hZ)
          clear hZ
          have oC := oR.re [1, 2, 0]
          go_wp2_with fail
          refine (length_spec (W := W) (b := b) (N + 2 * i) (by omega) oC).mono ?_
          rintro e2 w2 ⟨l, hl1, hl2, rfl, o3, k3⟩
          go_wp2
          go_meet
          exact ⟨l, hl1, hl2, fun h => absurd h0.out h, rfl, o3.re [2, 0, 1], kR.trans k3⟩
        | false =>
          have h0 : sz ≠ 0 := by simpa using hZ
          clear hZ
          go_wp2
          go_meet
          exact ⟨sz, by omega, by omega, fun _ => rfl, rfl, (Ch.upto (oR.up 1) (by omega)).re [1, 0], kR⟩
      case rest =>
        obtain ⟨l, hl1, hl2, hl3, rfl, oS, kS⟩ := hcut
        clear oR kR hZ
        obtain ⟨g, rfl, d0⟩ := hF _ _ (oS.up 3) i x HX.out
        have oSd := oS.drew.re [1, 2, 0]
        go_wp2
        go_region_held3 (fun w' => w'.cell? ⟨g, i, none⟩ = some (.int .i64 x)) (go_keep) (first
          | (refine step_append_src rfl _ _ rfl Tryz.headT rfl (oX.up 3) rfl ⟨_, _, rfl, rfl, by intro u hu; simp only [List.mem_cons, List.not_mem_nil, or_false] at hu; rcases hu with rfl | rfl | rfl <;> rfl, .inr ⟨_, rfl, hnw⟩⟩ (by unfold maxLen; omega) (by omega) ?_; intro a2 c2 w5 o5 k5; obtain ⟨_, hh5, d5⟩ := hF _ _ (o5.up 4) i x HX.out; cases hh5)
          | (go_at_call 10; (with_reducible refine (next_spec W b (N + 2 * i + 1) 3 _ _ (by omega) (by omega) (by omega) oSd).mono ?_); rintro e2 w2 ⟨y, hy0, hy1, rfl, o3, k3⟩; obtain ⟨_, hh3, d3⟩ := hF _ _ (o3.up 3) i x HX.out; cases hh3; have oX := o3.alloc (.cells #[.int .i64 x, .int .i64 l, .bool (decide (0 < y))] 35); have hnw := Own.news (T := 35) (vs := [.int .i64 x, .int .i64 l, .bool (decide (0 < y))]) oX))
        go_wp2
        have hfl : flat headC H ++ [.int .i64 x, .int .i64 l, .bool (decide (0 < y))] = flat headC (H ++ [⟨x, l, decide (0 < y)⟩]) := by rw [flat_append]; rfl
        rw [hfl] at o5
        have K5 := (kS.trans ((qcalm_drew (Calm.refl wc)).trans k3)).trans ((qcalm_alloc (Calm.refl w2)).trans k5)
        have hH2 : HdOk sz (F.take (i + 1)) (H ++ [⟨x, l, decide (0 < y)⟩]) := by
          refine ⟨by rw [List.map_append, hH.1, List.take_add_one, HX.out]; rfl, fun h hh => ?_⟩
          rcases List.mem_append.1 hh with hh | hh
          · exact hH.2 h hh
          · have : h = ⟨x, l, decide (0 < y)⟩ := by simpa using hh
            subst this
            exact ⟨hl1, hl2, hl3⟩
        go_roundw
        case rel => exact ⟨i + 1, a2, c2, _, by go_num, by have := Hn.out; omega, rfl, hH2, o5.re [1] 1, K5⟩
        case measure => simp [Lib.intOf]; omega
    · have hin : i = F.length := by have := Hn.out; omega
      subst hin
      rw [List.take_length] at hH
      go_wp2
      go_ret
      exact ⟨a', c', H, hH, rfl, oR, kR⟩
end
end Go.Proofs.YtkmlkpfabkhleaaGreat

/- The sum of the lags of cifq. -/
namespace Go.Proofs.YtkmlkpfabkhleaaGreat
open Go.RowKit
open SP
section
variable {w w' : World} {R : List SP} {b rp lp cp xp nb N : Nat} {num den : Int} {D : List Tg}

set_option maxHeartbeats 1600000 in
set_option maxRecDepth 100000 in
theorem cqSum_spec (hN : (N : Int) ≤ 1000000000000) (o : Own w (CqC b num den rp lp cp xp nb :: LagR lp N D :: R)) :
    Calls Tryz.prog 23 #[.pointer (some ⟨b, 0, none⟩)] w (Ret (.int .i64 (sumS D)) (CqC b num den rp lp cp xp nb :: LagR lp N D :: R) w) := by
  have c3 := o.cell 3
  have hlt := o.celLt
  have hc := lagSum_spec hN (o.up 1)
  generalize sumS D = X at *
  go_enter Tryz.func23, Tryz.ntmps23
  go_wp2_with fail
  refine hc.mono ?_
  rintro e1 w1 ⟨rfl, o1, k1⟩
  clear hc
  go_wp2
  go_ret
  exact ⟨rfl, o1.up 1, k1⟩
end
end Go.Proofs.YtkmlkpfabkhleaaGreat

/- Cifq: a slot as one contract; lagOf; alpha; the example. -/
namespace Go.Proofs.YtkmlkpfabkhleaaGreat
open Go.RowKit
open SP
section
variable {W w w' : World} {R : List SP} {b N cb K : Nat} {num den reb : Int} {s : Cq} {Sp : SP}

theorem cqStep_ok {i m : Nat} {nu de : Nat} (hI : CqInv i m N s) (hi : i ≤ 299) (hm : m ≤ 200000) (hN : N ≤ 1000000) (hA : AlOk nu de)
    {a : Option Addr} {n c : Nat} {H : List Head} (h1 : HeadsAt Sp a H) (hn : n = H.length) (hf : fitsH s.R.L H = true) (hne : H ≠ [])
    (o : Own w (CqF b (nu : Int) (de : Int) reb N s :: Sp :: R)) :
    Calls Tryz.prog 13 #[.pointer (some ⟨b, 0, none⟩), .slice a n c] w
      (Ret (.tuple #[chV (stepC (nu : Int) (de : Int) reb s H).1, .int .i64 0]) (CqF b (nu : Int) (de : Int) reb (N + 1) (stepC (nu : Int) (de : Int) reb s H).2.2 :: Sp :: R) w) := by
  obtain ⟨rp, lp, cp, xp, nb, o1⟩ := CqF.iff.1 o
  have hl : H.length ≤ 32 := by
    have := congrArg List.length (fits_facts hf).1
    simp only [List.length_map] at this
    have := hI.t.ok.ok.len
    omega
  have h0 := (hI.next hi hN (nu : Int) (de : Int) reb hf hne).1
  have := step_go (reb := reb) hI hi hm hN (by have := hA.lt; have := hA.le; omega) (by have := hA.le; omega) (c := c) h1 hn (by omega) hf hne o1
  rw [h0] at this
  exact this

def LoRel (b : Nat) (num den reb : Int) (N : Nat) (s : Cq) (f : Int) (a : Option Addr) (c : Nat) (R : List SP) (w : World) (v : Value) (wr : World) : Prop :=
  ∃ i : Nat, v = .int .i64 (i : Int) ∧ i ≤ s.R.L.length ∧ (∀ (j : Nat) (t : Tg), j < i → s.R.L[j]? = some t → t.f ≠ f) ∧ Own wr (slc 54 10 a s.R.L.length c (flat (accC s) s.R.L) :: CqF b num den reb N s :: R) ∧ Calm w wr
set_option maxHeartbeats 3200000 in
set_option maxRecDepth 100000 in
theorem lagOf_spec {i m M : Nat} (hI : CqInv i m M s) (f : Int) (o : Own w (CqF b num den reb N s :: R)) :
    Calls Tryz.prog 12 #[.pointer (some ⟨b, 0, none⟩), .int .i64 f] w (Ret (.int .i64 (lagO s.D f)) (CqF b num den reb N s :: R) w) := by
  have hlen := hI.t.ok.ok.len
  go_enter Tryz.func12, Tryz.ntmps12
  go_wp2_with fail
  refine (cqAcc_spec hlen o).mono ?_
  rintro e1 w1 ⟨a, c, rfl, o1, k1⟩
  have hT : LoRel b num den reb N s f a c R w (.int .i64 0) w1 := ⟨0, rfl, by omega, by omega, o1, k1⟩
  clear o1 k1 o
  go_wp2
  go_loopw [6] (fun v wr => LoRel b num den reb N s f a c R w v wr) (fun v _ => s.R.L.length - (Lib.intOf v).toNat)
  case atStart => exact hT
  case round =>
    clear hT
    obtain ⟨j, rfl, hj, hno, oR, kR⟩ := hrel
    by_cases hlt : j < s.R.L.length
    · obtain ⟨t, ht⟩ : ∃ t, s.R.L[j]? = some t := ⟨_, List.getElem?_eq_getElem (by omega)⟩
      obtain ⟨g, rfl, hc, _, _⟩ := oR.slc_cell (by omega)
      have d0 := hc (j * 10 + 0) _ (flat_get (accC_len s) s.R.L j 0 t ht (by omega))
      rw [Nat.add_zero] at d0
      have d2 := hc (j * 10 + 2) _ (flat_get (accC_len s) s.R.L j 2 t ht (by omega))
      change wr.cell? ⟨g, j * 10, none⟩ = some (.int .i64 t.f) at d0
      change wr.cell? ⟨g, j * 10 + 2, none⟩ = some (.int .i64 (lagO s.D t.f)) at d2
      have HT := Lib.hid ht
      clear hc ht
      by_cases he : t.f = f
      · have hb : (t.f == f) = true := by simpa using he
        rw [he] at d2
        have HE := Lib.hid he
        clear he
        go_wp2
        go_ret
        exact ⟨rfl, oR.drop, kR⟩
      · have hb : (t.f == f) = false := by simpa using he
        have HE := Lib.hid he
        clear he
        go_wp2
        go_roundw
        case rel => exact ⟨j + 1, by go_num, by omega, fun q u hq hu => by
          by_cases e : q = j
          · subst e; rw [HT.out] at hu; cases hu; exact HE.out
          · exact hno q u (by omega) hu, oR, kR⟩
        case measure => simp [Lib.intOf]; omega
    · have hz : lagO s.D f = 0 := by
        refine lagO_none (fget_none.2 fun t ht e => ?_)
        have hm : f ∈ s.D.map (·.f) := List.mem_map.2 ⟨t, ht, e⟩
        rw [hI.fl] at hm
        obtain ⟨u, hu, e2⟩ := List.mem_map.1 hm
        obtain ⟨q, hq⟩ := List.getElem?_of_mem hu
        exact hno q u (by have := (List.getElem?_eq_some_iff.1 hq).1; omega) hq e2
      have HZ := Lib.hid hz
      clear hz
      go_wp2
      go_ret
      exact ⟨by rw [HZ.out]; rfl, oR.drop, kR⟩

theorem alRow {fn : Func} (h : fn.results = #[.cell 2 26]) {tmps : Array Value} {p : Nat} {x y : Value} (hp : tmps.getD 2 undef = .pointer (some ⟨p, 0, none⟩))
    (o : Own w (cel p 26 [x, y] :: R)) : (results fn tmps).run Tryz.prog w = .ok (.agg #[x, y]) w :=
  results_cell_row h _ _ p _ _ _ _ hp o.blk Tryz.underlying26 rfl (by kernel_rfl)
def AlPost (W : World) (cb K : Nat) (R : List SP) (w : World) (e : Ending) (w' : World) : Prop :=
  ∃ nu de : Nat, AlOk nu de ∧ Ret (.agg #[.int .i64 (nu : Int), .int .i64 (de : Int)]) (Ch W cb (K + 1) :: old W :: R) w e w'
set_option maxHeartbeats 1600000 in
set_option maxRecDepth 100000 in
theorem alpha_spec (hK : K ≤ 800000000) (o : Own w (Ch W cb K :: old W :: R)) :
    Calls Tryz.prog 8 #[.pointer (some ⟨cb, 0, none⟩)] w (AlPost W cb K R w) := by
  have oA := (o.alloc (.cells #[.int .i64 0, .int .i64 0] 26)).alloc (.cells #[.int .i64 1, .int .i64 2, .int .i64 9, .int .i64 10, .int .i64 1, .int .i64 10, .int .i64 2, .int .i64 3, .int .i64 1048575, .int .i64 1048576, .int .i64 1, .int .i64 1048576] 26)
  simp only [World.size_alloc] at oA
  go_enter Tryz.func8, Tryz.ntmps8
  go_wp2_with fail
  refine (next_spec W cb K 6 _ _ (by omega) (by omega) (by omega) (oA.re [2, 3, 0, 1])).mono ?_
  rintro e1 w1 ⟨x, hx0, hx1, rfl, o1, k1⟩
  obtain ⟨j, rfl⟩ : ∃ j : Nat, x = (j : Int) := ⟨x.toNat, by omega⟩
  have key : ∃ nu de : Nat, AlOk nu de ∧ w1.cell? ⟨w.heap.size + 1, j * 2, none⟩ = some (.int .i64 (nu : Int)) ∧ w1.cell? ⟨w.heap.size + 1, j * 2 + 1, none⟩ = some (.int .i64 (de : Int)) := by
    have hj : j = 0 ∨ j = 1 ∨ j = 2 ∨ j = 3 ∨ j = 4 ∨ j = 5 := by omega
    rcases hj with rfl | rfl | rfl | rfl | rfl | rfl
    · exact ⟨1, 2, ⟨by decide, by decide, by decide⟩, Own.cell (T := 26) (vs := [.int .i64 1, .int .i64 2, .int .i64 9, .int .i64 10, .int .i64 1, .int .i64 10, .int .i64 2, .int .i64 3, .int .i64 1048575, .int .i64 1048576, .int .i64 1, .int .i64 1048576]) (o1.up 2) 0, Own.cell (T := 26) (vs := [.int .i64 1, .int .i64 2, .int .i64 9, .int .i64 10, .int .i64 1, .int .i64 10, .int .i64 2, .int .i64 3, .int .i64 1048575, .int .i64 1048576, .int .i64 1, .int .i64 1048576]) (o1.up 2) 1⟩
    · exact ⟨9, 10, ⟨by decide, by decide, by decide⟩, Own.cell (T := 26) (vs := [.int .i64 1, .int .i64 2, .int .i64 9, .int .i64 10, .int .i64 1, .int .i64 10, .int .i64 2, .int .i64 3, .int .i64 1048575, .int .i64 1048576, .int .i64 1, .int .i64 1048576]) (o1.up 2) 2, Own.cell (T := 26) (vs := [.int .i64 1, .int .i64 2, .int .i64 9, .int .i64 10, .int .i64 1, .int .i64 10, .int .i64 2, .int .i64 3, .int .i64 1048575, .int .i64 1048576, .int .i64 1, .int .i64 1048576]) (o1.up 2) 3⟩
    · exact ⟨1, 10, ⟨by decide, by decide, by decide⟩, Own.cell (T := 26) (vs := [.int .i64 1, .int .i64 2, .int .i64 9, .int .i64 10, .int .i64 1, .int .i64 10, .int .i64 2, .int .i64 3, .int .i64 1048575, .int .i64 1048576, .int .i64 1, .int .i64 1048576]) (o1.up 2) 4, Own.cell (T := 26) (vs := [.int .i64 1, .int .i64 2, .int .i64 9, .int .i64 10, .int .i64 1, .int .i64 10, .int .i64 2, .int .i64 3, .int .i64 1048575, .int .i64 1048576, .int .i64 1, .int .i64 1048576]) (o1.up 2) 5⟩
    · exact ⟨2, 3, ⟨by decide, by decide, by decide⟩, Own.cell (T := 26) (vs := [.int .i64 1, .int .i64 2, .int .i64 9, .int .i64 10, .int .i64 1, .int .i64 10, .int .i64 2, .int .i64 3, .int .i64 1048575, .int .i64 1048576, .int .i64 1, .int .i64 1048576]) (o1.up 2) 6, Own.cell (T := 26) (vs := [.int .i64 1, .int .i64 2, .int .i64 9, .int .i64 10, .int .i64 1, .int .i64 10, .int .i64 2, .int .i64 3, .int .i64 1048575, .int .i64 1048576, .int .i64 1, .int .i64 1048576]) (o1.up 2) 7⟩
    · exact ⟨1048575, 1048576, ⟨by decide, by decide, by decide⟩, Own.cell (T := 26) (vs := [.int .i64 1, .int .i64 2, .int .i64 9, .int .i64 10, .int .i64 1, .int .i64 10, .int .i64 2, .int .i64 3, .int .i64 1048575, .int .i64 1048576, .int .i64 1, .int .i64 1048576]) (o1.up 2) 8, Own.cell (T := 26) (vs := [.int .i64 1, .int .i64 2, .int .i64 9, .int .i64 10, .int .i64 1, .int .i64 10, .int .i64 2, .int .i64 3, .int .i64 1048575, .int .i64 1048576, .int .i64 1, .int .i64 1048576]) (o1.up 2) 9⟩
    · exact ⟨1, 1048576, ⟨by decide, by decide, by decide⟩, Own.cell (T := 26) (vs := [.int .i64 1, .int .i64 2, .int .i64 9, .int .i64 10, .int .i64 1, .int .i64 10, .int .i64 2, .int .i64 3, .int .i64 1048575, .int .i64 1048576, .int .i64 1, .int .i64 1048576]) (o1.up 2) 10, Own.cell (T := 26) (vs := [.int .i64 1, .int .i64 2, .int .i64 9, .int .i64 10, .int .i64 1, .int .i64 10, .int .i64 2, .int .i64 3, .int .i64 1048575, .int .i64 1048576, .int .i64 1, .int .i64 1048576]) (o1.up 2) 11⟩
  obtain ⟨nu, de, hA, d0, d1⟩ := key
  have z0 := Own.cell (T := 26) (vs := [.int .i64 0, .int .i64 0]) (o1.up 3) 0
  have z1 := Own.cell (T := 26) (vs := [.int .i64 0, .int .i64 0]) (o1.up 3) 1
  have zf := Own.frozen (T := 26) (vs := [.int .i64 0, .int .i64 0]) (o1.up 3)
  have zl := Own.celLt (T := 26) (vs := [.int .i64 0, .int .i64 0]) (o1.up 3)
  have oZ : Own _ (cel w.heap.size 26 [.int .i64 (nu : Int), .int .i64 (de : Int)] :: _) := (Own.setCell (T := 26) (vs := [.int .i64 0, .int .i64 0]) (o1.up 3) 0 (.int .i64 (nu : Int))).setCell 1 (.int .i64 (de : Int))
  go_wp2
  refine bodyPost_ret (v := .agg #[.int .i64 (nu : Int), .int .i64 (de : Int)]) ?_ rfl ?_
  · exact alRow (p := w.heap.size) rfl rfl oZ
  · exact ⟨nu, de, hA, rfl, oZ.re [0, 3] 2, qcalm_set (qcalm_set ((qcalm_alloc (qcalm_alloc (Calm.refl w))).trans k1))⟩
end
end Go.Proofs.YtkmlkpfabkhleaaGreat

/- Cifq: the beginning of the laws. -/
namespace Go.Proofs.YtkmlkpfabkhleaaGreat
open Go.RowKit
open SP
section
variable {W w w' : World} {R : List SP} {b N cb K : Nat} {num den reb : Int} {s : Cq} {Sp : SP}

theorem Tryz.intTq : ElemT Tryz.prog 22 3 1 8 := ElemT.mk' (z := .int .i64 0) Tryz.underlying22 (by kernel_rfl) rfl (by decide)
theorem rebAt {x : Int} (h0 : 0 ≤ x) (h1 : x < 2) : ∃ (j : Nat) (rb : Int), x = (j : Int) ∧ (j < 2) ∧ (rb = 1048576 ∨ rb = 1073741824) ∧ ∀ (w' : World) (g : Nat) (R' : List SP), Own w' (cel g 2 [.int .i64 1048576, .int .i64 1073741824] :: R') → w'.cell? ⟨g, j, none⟩ = some (.int .i64 rb) := by
  have : x = 0 ∨ x = 1 := by omega
  rcases this with rfl | rfl
  · exact ⟨0, _, rfl, by omega, .inl rfl, fun w' g R' o => o.cell 0⟩
  · exact ⟨1, _, rfl, by omega, .inr rfl, fun w' g R' o => o.cell 1⟩
theorem wt4At {x : Int} (h0 : 0 ≤ x) (h1 : x < 4) : ∃ (j : Nat) (y : Int), x = (j : Int) ∧ (j < 4) ∧ (y = 1 ∨ y = 2 ∨ y = 4) ∧ ∀ (w' : World) (g : Nat) (R' : List SP), Own w' (cel g 3 [.int .i64 1, .int .i64 2, .int .i64 1, .int .i64 4] :: R') → w'.cell? ⟨g, j, none⟩ = some (.int .i64 y) := by
  have : x = 0 ∨ x = 1 ∨ x = 2 ∨ x = 3 := by omega
  rcases this with rfl | rfl | rfl | rfl
  · exact ⟨0, 1, rfl, by omega, .inl rfl, fun w' g R' o => o.cell 0⟩
  · exact ⟨1, 2, rfl, by omega, .inr (.inl rfl), fun w' g R' o => o.cell 1⟩
  · exact ⟨2, 1, rfl, by omega, .inl rfl, fun w' g R' o => o.cell 2⟩
  · exact ⟨3, 4, rfl, by omega, .inr (.inr rfl), fun w' g R' o => o.cell 3⟩
theorem results_tmp4 {fn : Func} {t u v x : Tmp} (h : fn.results = #[.tmp t, .tmp u, .tmp v, .tmp x]) (tmps : Array Value) (P : Program) (w : World) :
    (results fn tmps).run P w = .ok (.tuple #[tmps.getD t undef, tmps.getD u undef, tmps.getD v undef, tmps.getD x undef]) w := by
  simp [results, h]
def idI (n : Nat) : List Int := (List.range n).map fun (k : Nat) => (k : Int)
theorem idI_len (n : Nat) : (idI n).length = n := by unfold idI; simp
theorem idI_snoc (n : Nat) : idI (n + 1) = idI n ++ [(n : Int)] := by unfold idI; rw [List.range_succ, List.map_append]; rfl
def WtOk (ws : List Int) : Prop := ∀ w ∈ ws, w = 1 ∨ w = 2 ∨ w = 4
def StRel (W : World) (b cb K n : Nat) (num den reb : Int) (R : List SP) (w : World) (v12 v13 v14 : Value) (wr : World) : Prop :=
  ∃ (i : Nat) (ws : List Int) (a1 a2 : Option Addr) (c1 c2 : Nat), v14 = .int .i64 (i : Int) ∧ ws.length = i ∧ i ≤ n ∧ WtOk ws ∧ v12 = .slice a1 i c1 ∧ v13 = .slice a2 i c2 ∧
    Own wr (slc 3 1 a1 i c1 ((idI i).map (Value.int .i64)) :: slc 3 1 a2 i c2 (ws.map (Value.int .i64)) :: CqF b num den reb 0 (stW ws) :: Ch W cb (K + 1 + i) :: old W :: R) ∧ Calm w wr
def StartPost (W : World) (cb K n : Nat) (num den : Int) (R : List SP) (w : World) (e : Ending) (w' : World) : Prop :=
  ∃ (b : Nat) (reb : Int) (ws : List Int) (a1 a2 : Option Addr) (c1 c2 : Nat), (reb = 1048576 ∨ reb = 1073741824) ∧ ws.length = n ∧ WtOk ws ∧
    Ret (.tuple #[.pointer (some ⟨b, 0, none⟩), .slice a1 n c1, .slice a2 n c2, .bool true])
      (slc 3 1 a1 n c1 ((idI n).map (Value.int .i64)) :: slc 3 1 a2 n c2 (ws.map (Value.int .i64)) :: CqF b num den reb 0 (stW ws) :: Ch W cb (K + 1 + n) :: old W :: R) w e w'

set_option maxHeartbeats 6400000 in
set_option maxRecDepth 100000 in
theorem start_spec {nu de n : Nat} (hA : AlOk nu de) (hn : n ≤ 5) (hK : K ≤ 800000000) (o : Own w (Ch W cb K :: old W :: R)) :
    Calls Tryz.prog 9 #[.pointer (some ⟨cb, 0, none⟩), .int .i64 (n : Int), .agg #[.int .i64 (nu : Int), .int .i64 (de : Int)]] w (StartPost W cb K n (nu : Int) (de : Int) R w) := by
  have oA := o.alloc (.cells #[.int .i64 (nu : Int), .int .i64 (de : Int)] 26)
  have q0 := Own.cell (T := 26) (vs := [.int .i64 (nu : Int), .int .i64 (de : Int)]) oA 0
  have q1 := Own.cell (T := 26) (vs := [.int .i64 (nu : Int), .int .i64 (de : Int)]) oA 1
  go_enter Tryz.func9, Tryz.ntmps9
  go_upto_region 1 with fail
  go_cut [10, 11] (fun v10 v11 wc => ∃ (b : Nat) (reb : Int), (reb = 1048576 ∨ reb = 1073741824) ∧ v10 = .pointer (some ⟨b, 0, none⟩) ∧ v11 = .int .i64 0 ∧ Own wc (CqF b (nu : Int) (de : Int) reb 0 cq0 :: Ch W cb (K + 1) :: old W :: R) ∧ Calm w wc)
  case first =>
    have oN1 := oA.drew.re [1, 2, 0]
    have oB := oA.alloc (.cells #[.int .i64 1048576, .int .i64 1073741824] 2)
    simp only [World.size_alloc] at oB
    have oN2 := oB.drew.re [2, 3, 0, 1]
    have u0 := Own.cell (T := 26) (vs := [.int .i64 (nu : Int), .int .i64 (de : Int)]) (oB.up 1) 0
    have u1 := Own.cell (T := 26) (vs := [.int .i64 (nu : Int), .int .i64 (de : Int)]) (oB.up 1) 1
    go_region_with (first
      | (go_at_call 10; (with_reducible refine (next_spec W cb K 2 _ _ (by omega) (by omega) (by omega) oN1).mono ?_); rintro e2 w2 ⟨y, hy0, hy1, rfl, o3, k3⟩; obtain ⟨j, rb, rfl, hj, hrb, hcell⟩ := rebAt hy0 hy1; have x0 := Own.cell (T := 26) (vs := [.int .i64 (nu : Int), .int .i64 (de : Int)]) (o3.up 2) 0; have x1 := Own.cell (T := 26) (vs := [.int .i64 (nu : Int), .int .i64 (de : Int)]) (o3.up 2) 1; have oY := o3.alloc (.cells #[.int .i64 1048576, .int .i64 1073741824] 2); have yc := hcell _ _ _ oY; have y0 := Own.cell (T := 26) (vs := [.int .i64 (nu : Int), .int .i64 (de : Int)]) (oY.up 3) 0; have y1 := Own.cell (T := 26) (vs := [.int .i64 (nu : Int), .int .i64 (de : Int)]) (oY.up 3) 1)
      | (go_at_call 10; (with_reducible refine (next_spec W cb K 2 _ _ (by omega) (by omega) (by omega) oN2).mono ?_); rintro e2 w2 ⟨y, hy0, hy1, rfl, oY, k3⟩; obtain ⟨j, rb, rfl, hj, hrb, hcell⟩ := rebAt hy0 hy1; have yc := hcell _ _ _ (oY.up 2); have y0 := Own.cell (T := 26) (vs := [.int .i64 (nu : Int), .int .i64 (de : Int)]) (oY.up 3) 0; have y1 := Own.cell (T := 26) (vs := [.int .i64 (nu : Int), .int .i64 (de : Int)]) (oY.up 3) 1)
      | (go_at_call 16; (with_reducible refine (cqNew_spec hA rb (by omega) (by omega) oY).mono ?_); rintro e4 w4 ⟨b, rfl, o4, k4⟩; have z0 := Own.cell (T := 26) (vs := [.int .i64 (nu : Int), .int .i64 (de : Int)]) (o4.up 4) 0; have z1 := Own.cell (T := 26) (vs := [.int .i64 (nu : Int), .int .i64 (de : Int)]) (o4.up 4) 1))
    all_goals go_wp2
    all_goals go_meet
    all_goals first
      | exact ⟨b, rb, hrb, rfl, rfl, o4.re [1, 4] 2, ((qcalm_drew (qcalm_alloc (Calm.refl w))).trans k3).trans ((qcalm_alloc (Calm.refl w2)).trans k4)⟩
      | exact ⟨b, rb, hrb, rfl, rfl, o4.re [3, 4] 2, ((qcalm_drew (qcalm_alloc (qcalm_alloc (Calm.refl w)))).trans k3).trans k4⟩
  case rest =>
    obtain ⟨b, reb, hreb, rfl, rfl, oS, kS⟩ := hcut
    have e0 : (stW [] : Cq) = cq0 := rfl
    have hT : StRel W b cb K n (nu : Int) (de : Int) reb R w (.slice none 0 0) (.slice none 0 0) (.int .i64 0) wc := ⟨0, [], none, none, 0, 0, rfl, rfl, by omega, by simp [WtOk], rfl, rfl, Own.slc_nil (Own.slc_nil oS), kS⟩
    clear oS kS oA q0 q1 o e0
    go_wp2
    go_loopw [12, 13, 14] (fun v12 v13 v14 wr => StRel W b cb K n (nu : Int) (de : Int) reb R w v12 v13 v14 wr) (fun _ _ v _ => n - (Lib.intOf v).toNat)
    case atStart => exact hT
    case round =>
      clear hT
      obtain ⟨i, ws, a1, a2, c1, c2, rfl, hws, hi5, hwt, rfl, rfl, oR, kR⟩ := hrel
      by_cases hlt : i < n
      · have oB := oR.alloc (.cells #[.int .i64 (i : Int)] 3)
        have HWS := Lib.hid hws
        have HWT := Lib.hid hwt
        clear hws hwt
        go_wp2_with (at_builtin; refine wpList_append_slc rfl _ _ rfl Tryz.intTq rfl (oB.up 1) ⟨wr.heap.size, 0, none⟩ 1 1 [.int .i64 (i : Int)] rfl rfl ?c1 ?c2 ?c3 ?c4 ?c5)
        case c1 => exact Own.news (T := 3) oB
        case c2 => intro u hu; simp at hu; subst hu; rfl
        case c3 => unfold maxLen; omega
        case c4 => omega
        case c5 =>
        intro a3 c3 w5 o5 k5
        have oC := o5.alloc (.cells #[.int .i64 1, .int .i64 2, .int .i64 1, .int .i64 4] 3)
        go_wp2_with fail
        refine (next_spec W cb (K + 1 + i) 4 _ _ (by omega) (by omega) (by omega) (oC.re [5, 6, 0, 1, 2, 3, 4])).mono ?_
        rintro e6 w6 ⟨y, hy0, hy1, rfl, o6, k6⟩
        obtain ⟨j, x, rfl, hj, hx, hcell⟩ := wt4At hy0 hy1
        have d0 := hcell _ _ _ (o6.up 2)
        have oD := o6.alloc (.cells #[.int .i64 x] 3)
        clear hcell
        go_wp2_with (at_builtin; refine wpList_append_slc rfl _ _ rfl Tryz.intTq rfl (oD.up 6) ⟨w6.heap.size, 0, none⟩ 1 1 [.int .i64 x] rfl rfl ?d1 ?d2 ?d3 ?d4 ?d5)
        case d1 => exact Own.news (T := 3) oD
        case d2 => intro u hu; simp at hu; subst hu; rfl
        case d3 => unfold maxLen; omega
        case d4 => omega
        case d5 =>
        intro a4 c4 w7 o7 k7
        have K7 : Calm w w7 := kR.trans (((qcalm_alloc (Calm.refl wr)).trans k5).trans (((qcalm_alloc (Calm.refl w5)).trans k6).trans ((qcalm_alloc (Calm.refl w6)).trans k7)))
        obtain ⟨g, rfl, hc, _, _⟩ := o7.slc_cell (by omega)
        have e0 := hc i (.int .i64 x) (by rw [List.getElem?_append_right (by rw [List.length_map, HWS.out]; exact Nat.le_refl _), List.length_map, HWS.out, Nat.sub_self]; rfl)
        obtain ⟨j1, j2⟩ := stW_join (ws := ws) (w := x) (by have := HWS.out; omega) (by omega) (by omega)
        have j3 := (CqInv.join (stW_inv i ws HWS.out (by omega) (fun u hu => by have := HWT.out u hu; omega)) j1).1
        have hjo := cqJoin_ok (ws.length : Int) x j1 j3 (o7.re [7])
        unfold joinC at j2
        rw [j2, HWS.out] at hjo
        clear j1 j2 j3 hc o5 oB oC o6 oD d0 k5 k6 k7 oR kR
        go_wp2_with fail
        refine hjo.mono ?_
        rintro e8 w8 ⟨rfl, o8, k8⟩
        clear hjo e0
        have o9 := o8.re [2, 5, 7, 6, 1, 0, 3, 4] 3
        have m1 : (idI i).map (Value.int .i64) ++ [.int .i64 (i : Int)] = (idI (i + 1)).map (Value.int .i64) := by rw [idI_snoc, List.map_append]; rfl
        have m2 : ws.map (Value.int .i64) ++ [.int .i64 x] = (ws ++ [x]).map (Value.int .i64) := by rw [List.map_append]; rfl
        rw [m1, m2] at o9
        go_wp2
        go_roundw
        case rel => exact ⟨i + 1, ws ++ [x], a3, some ⟨g, 0, none⟩, c3, c4, by go_num, by rw [List.length_append, HWS.out]; rfl, by omega, fun u hu => by
          rcases List.mem_append.1 hu with hu | hu
          · exact HWT.out u hu
          · have : u = x := by simpa using hu
            subst this; exact hx, rfl, rfl, o9, K7.trans k8⟩
        case measure => simp [Lib.intOf]; omega
      · have hin : i = n := by omega
        subst hin
        go_wp2
        refine bodyPost_ret (v := .tuple #[.pointer (some ⟨b, 0, none⟩), .slice a1 i c1, .slice a2 i c2, .bool true]) (results_tmp4 Tryz.results9 _ _ _) rfl ?_
        exact ⟨b, reb, ws, a1, a2, c1, c2, hreb, hws, hwt, rfl, oR, kR⟩
end
end Go.Proofs.YtkmlkpfabkhleaaGreat

/- Cifq, plain: heads that are turned at one place; small facts. -/
namespace Go.Proofs.YtkmlkpfabkhleaaGreat
open Go.RowKit
open SP
section
variable {sz : Int} {num den reb : Int} {s : Cq} {i m N : Nat} {H : List Head}

theorem lw_lag (ws : List Int) (f : Int) : lagO (lw ws) f = 0 := by
  cases hf : fget (lw ws) f with
  | none => exact lagO_none hf
  | some t =>
    rw [lagO_get hf]
    have ht : t ∈ lw ws := (fget_some hf).1
    unfold lw at ht
    obtain ⟨i, _, rfl⟩ := List.mem_map.1 ht
    rfl
theorem idI_get {n k : Nat} (h : k < n) : (idI n)[k]? = some (k : Int) := by
  unfold idI
  rw [List.getElem?_map, List.getElem?_range h]; rfl
theorem headOf_at {n k : Nat} {h : Head} (hm : H.map (·.f) = idI n) (hh : H[k]? = some h) : headOf H (k : Int) = h := by
  have hlen : H.length = n := by rw [← idI_len n, ← hm, List.length_map]
  have hk := (List.getElem?_eq_some_iff.1 hh).1
  have hfx : ∀ (q : Nat) (x : Head), H[q]? = some x → x.f = (q : Int) := fun q x hx => by
    have hq := (List.getElem?_eq_some_iff.1 hx).1
    have := congrArg (fun l => l[q]?) hm
    simp only [List.getElem?_map, hx, idI_get (show q < n by omega)] at this
    exact Option.some.inj this
  obtain ⟨q, e1, e2⟩ := headOf_idx (H := H) (k := (k : Int)) ⟨h, List.mem_of_getElem? hh, hfx k h hh⟩
  have h3 : (headOf H (k : Int)).f = (k : Int) := (headOf_mem (List.mem_map.2 ⟨h, List.mem_of_getElem? hh, hfx k h hh⟩)).2
  have h4 := hfx q _ e1
  have : q = k := by omega
  subst this
  rw [hh] at e1
  exact (Option.some.inj e1).symm
theorem set_good {n k : Nat} {h : Head} (hm : H.map (·.f) = idI n) (hh : H[k]? = some h) (y : Bool) : (H.set k { h with good := y }).map (·.f) = idI n ∧ (H.set k { h with good := y })[k]? = some { h with good := y } ∧ flat headC (H.set k { h with good := y }) = (flat headC H).set (k * 3 + 2) (.bool y) := by
  have hk := (List.getElem?_eq_some_iff.1 hh).1
  refine ⟨?_, ?_, ?_⟩
  · rw [List.map_set, ← hm]
    refine List.ext_getElem? fun q => ?_
    rw [List.getElem?_set]
    split
    · rename_i e
      subst e
      rw [if_pos (by rw [List.length_map]; exact hk), List.getElem?_map, hh]; rfl
    · rfl
  · rw [List.getElem?_set_self hk]
  · exact flat_set headC_len H k 2 h { h with good := y } (.bool y) hh (by omega) rfl
theorem CqInv.next_low (h : CqInv i m N s) (hi : i ≤ 299) (hN : N ≤ 1000000) (hf : fitsH s.R.L H = true) (hne : H ≠ []) (hr : reb ≤ 2952069120) (hl : CqLow s) : CqLow (stepC num den reb s H).2.2 := by
  obtain ⟨_, _, _, _, h5⟩ := h.step hi hN num den reb hf hne rfl rfl rfl
  rcases h5 with ⟨_, e, _⟩ | ⟨j, why, len, _, _, _, _, _, _, _, e, _, _, _, _, h7⟩
  · rw [e]; exact ⟨hl.r, hl.c, hl.x⟩
  · rw [e]; exact h7 hr hl
theorem lag_rng (h : CqInv i m N s) (f : Int) : -(8192 * (N : Int)) ≤ lagO s.D f ∧ lagO s.D f ≤ 8192 * (N : Int) := by
  cases hf : fget s.D f with
  | none => rw [lagO_none hf]; omega
  | some t => rw [lagO_get hf]; exact h.lg.lag (fget_some hf).1
end
end Go.Proofs.YtkmlkpfabkhleaaGreat

/- Cifq, plain: a slot of CifqLead. -/
namespace Go.Proofs.YtkmlkpfabkhleaaGreat
open Go.RowKit
open SP
section
variable {i m N : Nat} {s : Cq} {num den reb : Int} {H : List Head}

theorem lead_round (h : CqInv i m N s) (hi : i ≤ 299) (hN : N ≤ 1000000) (hf : fitsH s.R.L H = true) (hne : H ≠ []) (hn : 0 < num) (hd : num < den) (hb : LB num den s)
    {n : Nat} {h0 : Head} (hm : H.map (·.f) = idI n) (hh : H[0]? = some h0) (hg : h0.good = true) (hl : lagO s.D 0 < 0)
    {ch re : Int} (hq : pOf num den (cntO s.n 0) - 4096 * (den - num) ≤ pOf num den (ch, re)) :
    ((stepC num den reb s H).1.sv < 0 ∧ (lagO (stepC num den reb s H).2.2.D 0 < 0 → pOf num den (cntO (stepC num den reb s H).2.2.n 0) - 4096 * (den - num) ≤ pOf num den (ch, re))) ∨
    ∃ (j : Nat) (x : Head), (stepC num den reb s H).1.sv = (j : Int) ∧ j < n ∧ H[j]? = some x ∧ 1 ≤ x.len ∧ x.len ≤ 4096 ∧ 1 ≤ h0.len ∧ h0.len ≤ 4096 ∧
      -(4096 * den) ≤ pOf num den (if (stepC num den reb s H).1.ch = 0 then ch + x.len else ch, if (stepC num den reb s H).1.sv = 0 then re + h0.len else re) ∧
      (lagO (stepC num den reb s H).2.2.D 0 < 0 → pOf num den (cntO (stepC num den reb s H).2.2.n 0) - 4096 * (den - num) ≤ pOf num den (if (stepC num den reb s H).1.ch = 0 then ch + x.len else ch, if (stepC num den reb s H).1.sv = 0 then re + h0.len else re)) := by
  have e0 : headOf H ((0 : Nat) : Int) = h0 := headOf_at hm hh
  have e0 : headOf H 0 = h0 := e0
  obtain ⟨f1, f2⟩ := fits_facts hf
  obtain ⟨c0, hc0⟩ : ∃ c0, chooseC num den { s with C := eligO s.C (lagH s.D H), X := eligO s.X (allH s.D H) } H (!(allH s.D H).isEmpty) = c0 := ⟨_, rfl⟩
  obtain ⟨_, _, _, _, h5⟩ := h.step hi hN num den reb hf hne rfl rfl hc0
  rcases h5 with ⟨_, e, _⟩ | ⟨j, why, len, hcc, hj0, hlen, ⟨x, hx, hxj⟩, l1, l2, _, e, _⟩
  · left
    rw [e]
    exact ⟨by show (-1 : Int) < 0; omega, fun _ => hq⟩
  · right
    have hsv : (stepC num den reb s H).1.sv = j := by rw [e, hcc]
    have hL := lead_step (reb := reb) h hi hN hf hne hn hd hb hl (by rw [e0]; exact hg) hq rfl (by rw [hsv]; exact hj0)
    obtain ⟨q, hq⟩ := List.getElem?_of_mem hx
    have hlen2 : H.length = n := by rw [← idI_len n, ← hm, List.length_map]
    have hqn : q < n := by have := (List.getElem?_eq_some_iff.1 hq).1; omega
    have hxf : x.f = (q : Int) := by
      have := congrArg (fun l => l[q]?) hm
      simp only [List.getElem?_map, hq, idI_get hqn] at this
      exact Option.some.inj this
    have ex : headOf H (q : Int) = x := headOf_at hm hq
    have hjq : j = (q : Int) := by rw [← hxj, hxf]
    have hxl := f2 x hx
    have h0l := f2 h0 (List.mem_of_getElem? hh)
    rw [e0, hsv, hjq, ex] at hL
    rw [hsv, hjq]
    exact ⟨q, x, rfl, hqn, hq, hxl.1, hxl.2, h0l.1, h0l.2, hL.1, hL.2⟩
end
end Go.Proofs.YtkmlkpfabkhleaaGreat

/- Cifq: the example of chapter 24. -/
namespace Go.Proofs.YtkmlkpfabkhleaaGreat
open Go.RowKit
open SP
section
variable {W w w' : World} {R : List SP} {b N cb K : Nat} {num den reb : Int} {s : Cq} {Sp : SP}

theorem cqSumF_spec (hN : (N : Int) ≤ 1000000000000) (o : Own w (CqF b num den reb N s :: R)) :
    Calls Tryz.prog 23 #[.pointer (some ⟨b, 0, none⟩)] w (Ret (.int .i64 (sumS s.D)) (CqF b num den reb N s :: R) w) := by
  obtain ⟨rp, lp, cp, xp, nb, o1⟩ := CqF.iff.1 o
  refine (cqSum_spec hN (o1.re [0, 2])).mono ?_
  rintro e w' ⟨rfl, o2, k2⟩
  exact ⟨rfl, CqF.iff.2 ⟨rp, lp, cp, xp, nb, o2.re [0, 2, 1]⟩, k2⟩
theorem awStep {k : Nat} (hk : k < 4) {g c : Nat} (o : Own w (CqF b 1 2 1099511627776 k (awS k) :: slc 35 3 (some ⟨g, 0, none⟩) 2 c (flat headC (awH k)) :: R)) :
    Calls Tryz.prog 13 #[.pointer (some ⟨b, 0, none⟩), .slice (some ⟨g, 0, none⟩) 2 c] w
      (Ret (.tuple #[chV (awC k), .int .i64 0]) (CqF b 1 2 1099511627776 (k + 1) (awS (k + 1)) :: slc 35 3 (some ⟨g, 0, none⟩) 2 c (flat headC (awH k)) :: R) w) := by
  obtain ⟨h1, h2⟩ := aw_step hk
  have := cqStep_ok (nu := 1) (de := 2) (reb := 1099511627776) (aw_inv k (by omega)) (by omega) (by omega) (by omega) ⟨by decide, by decide, by decide⟩ (c := c) (headsAt_slc (some ⟨g, 0, none⟩) 2 c (awH k) (by cases k <;> rfl)) (by cases k <;> rfl) h1 (by cases k <;> simp [awH]) o
  rw [show (((1 : Nat) : Int)) = 1 from rfl, show (((2 : Nat) : Int)) = 2 from rfl, h2] at this
  exact this

set_option maxHeartbeats 6400000 in
set_option maxRecDepth 100000 in
theorem awake24_spec (o : Own w R) : Calls Tryz.prog 15 #[] w (Ret (.bool true) R w) := by
  have hA : AlOk 1 2 := ⟨by decide, by decide, by decide⟩
  go_enter Tryz.func15, Tryz.ntmps15
  go_wp2_with fail
  refine (cqNew_spec (nu := 1) (de := 2) hA 1099511627776 (by decide) (by decide) o).mono ?_
  rintro e1 w1 ⟨b, rfl, o1, k1⟩
  have j1 := stW_join (ws := []) (w := 1) (by decide) (by decide) (by decide)
  have i1 := (CqInv.join (stW_inv 0 [] rfl (by omega) (by simp)) j1.1).1
  have hj := cqJoin_ok (s := stW []) 0 1 j1.1 i1 o1
  have e1 := j1.2
  unfold joinC at e1
  change _ = stW [1] at e1
  change ({ stW [] with R := joinS (stW []).R 0 1, D := (nJoin (stW []).D 0 1).2 } : Cq) = stW [1] at e1
  rw [e1] at hj
  clear j1 i1 e1
  go_wp2_with fail
  refine hj.mono ?_
  rintro e2 w2 ⟨rfl, o2, k2⟩
  clear hj
  have j1 := stW_join (ws := [1]) (w := 1) (by decide) (by decide) (by decide)
  have i1 := (CqInv.join (stW_inv 1 [1] rfl (by omega) (by simp)) j1.1).1
  have hj := cqJoin_ok (s := stW [1]) 1 1 j1.1 i1 o2
  have e1 := j1.2
  unfold joinC at e1
  change ({ stW [1] with R := joinS (stW [1]).R 1 1, D := (nJoin (stW [1]).D 1 1).2 } : Cq) = stW [1, 1] at e1
  rw [e1] at hj
  clear j1 i1 e1
  go_wp2_with fail
  refine hj.mono ?_
  rintro e3 w3 ⟨rfl, o3, k3⟩
  clear hj
  have oH := o3.alloc (.cells #[.int .i64 0, .int .i64 100, .bool false, .int .i64 1, .int .i64 100, .bool true] 35)
  have oI := slc_new (size := 3) (n := 2) oH rfl (by omega)
  have oI' := oI.re [1, 0]
  have hs : Calls Tryz.prog 13 #[.pointer (some ⟨b, 0, none⟩), .slice (some ⟨w3.heap.size, 0, none⟩) 2 2] _ (Ret (.tuple #[.agg #[.int .i64 0, .int .i64 1, .int .i64 4], .int .i64 0]) (CqF b 1 2 1099511627776 1 (awS 1) :: _) _) := awStep (k := 0) (by decide) (oI.re [1, 0])
  clear oI'
  go_wp2_with fail
  refine hs.mono ?_
  rintro e4 w4 ⟨rfl, o4, k4⟩
  clear hs
  have oJ := o4.alloc (.cells #[.int .i64 0, .int .i64 1, .int .i64 4] 38)
  have oK := oJ.alloc (.cells #[.int .i64 0, .int .i64 100, .bool true, .int .i64 1, .int .i64 100, .bool true] 35)
  simp only [World.size_alloc] at oK
  have oL := slc_new (size := 3) (n := 2) oK rfl (by omega)
  have hs : Calls Tryz.prog 13 #[.pointer (some ⟨b, 0, none⟩), .slice (some ⟨w4.heap.size + 1, 0, none⟩) 2 2] _ (Ret (.tuple #[.agg #[.int .i64 1, .int .i64 1, .int .i64 1], .int .i64 0]) (CqF b 1 2 1099511627776 2 (awS 2) :: _) _) := awStep (k := 1) (by decide) (oL.re [2, 0])
  go_wp2_with fail
  refine hs.mono ?_
  rintro e5 w5 ⟨rfl, o5, k5⟩
  clear hs
  have oM := o5.alloc (.cells #[.int .i64 1, .int .i64 1, .int .i64 1] 38)
  have hs : Calls Tryz.prog 13 #[.pointer (some ⟨b, 0, none⟩), .slice (some ⟨w4.heap.size + 1, 0, none⟩) 2 2] _ (Ret (.tuple #[.agg #[.int .i64 0, .int .i64 0, .int .i64 1], .int .i64 0]) (CqF b 1 2 1099511627776 3 (awS 3) :: _) _) := awStep (k := 2) (by decide) (oM.re [1, 2])
  go_wp2_with fail
  refine hs.mono ?_
  rintro e6 w6 ⟨rfl, o6, k6⟩
  clear hs
  have oN := o6.alloc (.cells #[.int .i64 0, .int .i64 0, .int .i64 1] 38)
  have hs : Calls Tryz.prog 13 #[.pointer (some ⟨b, 0, none⟩), .slice (some ⟨w4.heap.size + 1, 0, none⟩) 2 2] _ (Ret (.tuple #[.agg #[.int .i64 1, .int .i64 0, .int .i64 2], .int .i64 0]) (CqF b 1 2 1099511627776 4 (awS 4) :: _) _) := awStep (k := 3) (by decide) (oN.re [1, 2])
  go_wp2_with fail
  refine hs.mono ?_
  rintro e7 w7 ⟨rfl, o7, k7⟩
  clear hs
  have oO := o7.alloc (.cells #[.int .i64 1, .int .i64 0, .int .i64 2] 38)
  have a0 := Own.cell (T := 38) (vs := [.int .i64 1, .int .i64 0, .int .i64 2]) (oO.up 0) 0
  have a1 := Own.cell (T := 38) (vs := [.int .i64 1, .int .i64 0, .int .i64 2]) (oO.up 0) 1
  have a2 := Own.cell (T := 38) (vs := [.int .i64 1, .int .i64 0, .int .i64 2]) (oO.up 0) 2
  have p0 := Own.cell (T := 38) (vs := [.int .i64 0, .int .i64 0, .int .i64 1]) (oO.up 3) 0
  have p1 := Own.cell (T := 38) (vs := [.int .i64 0, .int .i64 0, .int .i64 1]) (oO.up 3) 1
  have p2 := Own.cell (T := 38) (vs := [.int .i64 0, .int .i64 0, .int .i64 1]) (oO.up 3) 2
  have q0 := Own.cell (T := 38) (vs := [.int .i64 1, .int .i64 1, .int .i64 1]) (oO.up 4) 0
  have q1 := Own.cell (T := 38) (vs := [.int .i64 1, .int .i64 1, .int .i64 1]) (oO.up 4) 1
  have q2 := Own.cell (T := 38) (vs := [.int .i64 1, .int .i64 1, .int .i64 1]) (oO.up 4) 2
  have r0 := Own.cell (T := 38) (vs := [.int .i64 0, .int .i64 1, .int .i64 4]) (oO.up 5) 0
  have r1 := Own.cell (T := 38) (vs := [.int .i64 0, .int .i64 1, .int .i64 4]) (oO.up 5) 1
  have r2 := Own.cell (T := 38) (vs := [.int .i64 0, .int .i64 1, .int .i64 4]) (oO.up 5) 2
  have hsum := cqSumF_spec (by decide) (oO.re [1])
  rw [(aw_inv 4 (by omega)).sum] at hsum
  go_wp2_with fail
  refine hsum.mono ?_
  rintro e8 w8 ⟨rfl, o8, k8⟩
  go_wp2
  go_ret
  have K3 := k1.trans (k2.trans k3)
  have K4 := (qcalm_alloc (x := .cells #[.int .i64 0, .int .i64 100, .bool false, .int .i64 1, .int .i64 100, .bool true] 35) K3).trans k4
  have K5 := (qcalm_alloc (x := .cells #[.int .i64 0, .int .i64 100, .bool true, .int .i64 1, .int .i64 100, .bool true] 35) (qcalm_alloc (x := .cells #[.int .i64 0, .int .i64 1, .int .i64 4] 38) K4)).trans k5
  have K6 := (qcalm_alloc (x := .cells #[.int .i64 1, .int .i64 1, .int .i64 1] 38) K5).trans k6
  have K7 := (qcalm_alloc (x := .cells #[.int .i64 0, .int .i64 0, .int .i64 1] 38) K6).trans k7
  exact ⟨rfl, o8.dropN 7, (qcalm_alloc (x := .cells #[.int .i64 1, .int .i64 0, .int .i64 2] 38) K7).trans k8⟩
end
end Go.Proofs.YtkmlkpfabkhleaaGreat

/- CifqSteady, walked. -/
namespace Go.Proofs.YtkmlkpfabkhleaaGreat
open Go.RowKit
open SP
section
variable {W w w' : World} {R : List SP} {b N cb K : Nat} {num den reb : Int} {s : Cq} {Sp : SP}

theorem headC_good (h : Head) (H : List Head) : (flat headC (h :: H)).set 2 (.bool true) = flat headC ({ h with good := true } :: H) := rfl
theorem wt_rng {ws : List Int} (h : WtOk ws) : ∀ w ∈ ws, 1 ≤ w ∧ w ≤ 16 := fun w hw => by rcases h w hw with h | h | h <;> omega
theorem stW_flows (ws : List Int) : (stW ws).R.L.map (·.f) = idI ws.length := by
  show (lw ws).map (·.f) = _
  unfold lw idI
  rw [List.map_map]; rfl
theorem below_of {l : List SP} (o : Own w' (old w :: l)) (k : Calm w w') : Below w.heap.size w w' := o.below k

/-- A slot of the laws: heads are drawn, maybe turned, and the slot is done. -/
def SlRel (W : World) (b cb M n : Nat) (nu de : Nat) (reb : Int) (a1 : Option Addr) (c1 : Nat) (k0 B : Nat) (w : World) (v : Value) (wr : World) : Prop :=
  ∃ (i : Nat) (s : Cq), v = .int .i64 (i : Int) ∧ i ≤ B ∧ CqInv (k0 + i) (k0 + i) (k0 + i) s ∧ s.R.L.map (·.f) = idI n ∧
    Own wr (CqF b (nu : Int) (de : Int) reb (k0 + i) s :: slc 3 1 a1 n c1 ((idI n).map (Value.int .i64)) :: Ch W cb (M + 10 * i) :: old W :: []) ∧ Calm w wr

end
end Go.Proofs.YtkmlkpfabkhleaaGreat

/- CifqLead, walked. -/
namespace Go.Proofs.YtkmlkpfabkhleaaGreat
open Go.RowKit
open SP
section
variable {W w w' : World} {R : List SP} {b N cb K : Nat} {num den reb : Int} {s : Cq} {Sp : SP}

theorem stW_lb {ws : List Int} {nu de : Nat} (hA : AlOk nu de) : LB (nu : Int) (de : Int) (stW ws) := fun f => by
  show -((nu : Int) * 4096) ≤ pOf (nu : Int) (de : Int) (0, 0) ∧ pOf (nu : Int) (de : Int) (0, 0) ≤ _
  have h1 := hA.pos
  have h2 := hA.lt
  unfold pOf; dsimp only; omega
def LdRel (W : World) (b cb M n : Nat) (nu de : Nat) (reb : Int) (a1 : Option Addr) (c1 ab : Nat) (w : World) (v9 v10 v11 : Value) (wr : World) : Prop :=
  ∃ (i : Nat) (s : Cq) (ch re : Nat), v9 = .int .i64 (ch : Int) ∧ v10 = .int .i64 (re : Int) ∧ v11 = .int .i64 (i : Int) ∧ i ≤ 80 ∧ ch ≤ 4096 * i ∧ re ≤ 4096 * i ∧ CqInv i i i s ∧ LB (nu : Int) (de : Int) s ∧ s.R.L.map (·.f) = idI n ∧
    (lagO s.D 0 < 0 → pOf (nu : Int) (de : Int) (cntO s.n 0) - 4096 * ((de : Int) - (nu : Int)) ≤ pOf (nu : Int) (de : Int) ((ch : Int), (re : Int))) ∧
    Own wr (CqF b (nu : Int) (de : Int) reb i s :: slc 3 1 a1 n c1 ((idI n).map (Value.int .i64)) :: cel ab 26 [.int .i64 (nu : Int), .int .i64 (de : Int)] :: Ch W cb (M + 20 * i) :: old W :: []) ∧ Calm w wr

set_option maxHeartbeats 12800000 in
set_option maxRecDepth 100000 in
theorem cifqLead_walk (a0 : Option Addr) (len0 cap0 : Nat) (z0 : List Int) (w : World) (w0 : IsRow .i64 w a0 len0 cap0 z0) :
    Calls Tryz.prog 3 #[.slice a0 len0 cap0] w fun e w' => e = .returned (.bool true) ∧ Below w.heap.size w w' := by
  have oW := Own.start w
  go_enter Tryz.func3, Tryz.ntmps3
  go_wp2_with fail
  refine (genNew_spec a0 len0 cap0 z0 w0 oW).mono ?_
  rintro e1 v1 ⟨cb, rfl, o1, k1⟩
  go_wp2_with fail
  refine (alpha_spec (by omega) o1).mono ?_
  rintro e2 v2 ⟨nu, de, hA, rfl, o2, k2⟩
  have oB := o2.alloc (.cells #[.int .i64 (nu : Int), .int .i64 (de : Int)] 26)
  have K2 : Calm w v2 := k1.trans k2
  have q0 := Own.cell (T := 26) (vs := [.int .i64 (nu : Int), .int .i64 (de : Int)]) oB 0
  have q1 := Own.cell (T := 26) (vs := [.int .i64 (nu : Int), .int .i64 (de : Int)]) oB 1
  have oBd := oB.drew.re [1, 2, 0]
  go_wp2
  go_region_held3 (fun w' => w'.cell? ⟨v2.heap.size, 0, none⟩ = some (.int .i64 (nu : Int)) ∧ w'.cell? ⟨v2.heap.size, 1, none⟩ = some (.int .i64 (de : Int))) (go_keep) (first
    | (go_at_call 10; (with_reducible refine (next_spec w cb (0 + 1) 3 _ _ (by omega) (by omega) (by omega) oBd).mono ?_); rintro e3 v3 ⟨y, hy0, hy1, rfl, o3, k3⟩; have r0 := Own.cell (T := 26) (vs := [.int .i64 (nu : Int), .int .i64 (de : Int)]) (o3.up 2) 0; have r1 := Own.cell (T := 26) (vs := [.int .i64 (nu : Int), .int .i64 (de : Int)]) (o3.up 2) 1; obtain ⟨n, hn⟩ : ∃ n : Nat, 2 + y = (n : Int) := ⟨(2 + y).toNat, by omega⟩; have hn5 : n ≤ 4 := (by omega); have hn2 : 2 ≤ n := (by omega); have hst := fun (u : World) (R : List SP) (o : Own u (Ch w cb (0 + 1 + 1) :: old w :: R)) => start_spec (n := n) hA (by omega) (by omega) o; have hwr := IntWalk.i64_in (n : Int) (by omega))
    | (go_at_call 9; (with_reducible refine (hst _ _ o3).mono ?_); rintro e4 v4 ⟨b, reb, ws, a1, a2, c1, c2, hreb, hws, hwt, rfl, o4, k4⟩; have s0 := Own.cell (T := 26) (vs := [.int .i64 (nu : Int), .int .i64 (de : Int)]) (o4.up 5) 0; have s1 := Own.cell (T := 26) (vs := [.int .i64 (nu : Int), .int .i64 (de : Int)]) (o4.up 5) 1))
  have K4 : Calm w v4 := K2.trans ((qcalm_drew (qcalm_alloc (Calm.refl v2))).trans (k3.trans k4))
  clear hst hwr hn r0 r1 s0 s1 q0 q1 oBd oB k1 k2 k3 k4 K2 o1 o2 o3 oW
  generalize v2.heap.size = ab at *
  have hwr1 := wt_rng hwt
  have hI0 := stW_inv n ws hws (by omega) hwr1
  have hfl := stW_flows ws
  rw [hws] at hfl
  have hT : LdRel w b cb (0 + 1 + 1 + 1 + n) n nu de reb a1 c1 ab w (.int .i64 0) (.int .i64 0) (.int .i64 0) v4 := ⟨0, stW ws, 0, 0, rfl, rfl, rfl, by omega, by omega, by omega, hI0, stW_lb hA, hfl, fun hl => absurd hl (by rw [show lagO (stW ws).D 0 = 0 from lw_lag ws 0]; omega), (o4.re [1, 2, 0, 5, 3, 4] 1).re [0, 1, 2, 3, 4], K4⟩
  clear o4 K4 hI0 hfl
  go_wp2
  go_loopw [9, 10, 11] (fun v9 v10 v11 wr => LdRel w b cb (0 + 1 + 1 + 1 + n) n nu de reb a1 c1 ab w v9 v10 v11 wr) (fun _ _ v _ => 80 - (Lib.intOf v).toNat)
  case atStart => exact hT
  case round =>
    clear hT
    obtain ⟨i, s, ch, re, rfl, rfl, rfl, hi, hch, hre, hI, hLB, hfl, hq, oR, kR⟩ := hrel
    by_cases hlt : i < 80
    · go_wp2_with fail
      refine (heads_spec (sz := 0) (.inl rfl) (intsAt_slc a1 n c1 (idI n) (idI_len n).symm) (c := c1) (idI_len n).symm (by omega) (by omega) (oR.re [3, 4, 1])).mono ?_
      rintro e5 v5 ⟨a5, c5, H, hH, rfl, o5, k5⟩
      rw [idI_len] at o5 ⊢
      have hHl : H.length = n := by rw [← idI_len n, ← hH.1, List.length_map]
      obtain ⟨h0, hh⟩ : ∃ h, H[0]? = some h := ⟨_, List.getElem?_eq_getElem (by omega)⟩
      obtain ⟨g, rfl, hc, hfz, hgl⟩ := o5.slc_cell (by omega)
      have d2 := hc 2 (.bool h0.good) (flat_get headC_len H 0 2 h0 hh (by omega))
      have hf2 := hfz 2
      have hset := fun (z : Bool) => (set_good hH.1 hh z).2.2
      have hfll : 2 < (flat headC H).length := by rw [flat_length headC_len]; omega
      have HHl := Lib.hid hHl
      have HH := Lib.hid hh
      have HSET := Lib.hid hset
      have HQ := Lib.hid hq
      have HLB := Lib.hid hLB
      clear hc hfz hHl hh hset hq hLB
      have K5 := kR.trans k5
      clear k5 kR oR
      go_upto_region 11 with fail
      go_cut [12] (fun v wc => v = .slice (some ⟨g, 0, none⟩) n c5 ∧ ∃ z : Bool, Own wc (slc 35 3 (some ⟨g, 0, none⟩) n c5 (flat headC (H.set 0 { h0 with good := z })) :: Ch w cb (0 + 1 + 1 + 1 + n + 20 * i + 2 * n + 1) :: old w :: slc 3 1 a1 n c1 ((idI n).map (Value.int .i64)) :: CqF b (nu : Int) (de : Int) reb i s :: cel ab 26 [.int .i64 (nu : Int), .int .i64 (de : Int)] :: []) ∧ Calm w wc)
      case first =>
        obtain ⟨gd, hgd⟩ : ∃ gd, h0.good = gd := ⟨_, rfl⟩
        rw [hgd] at d2
        clear hgd
        cases gd with
        | true =>
          have oS := o5.slc_set 2 (.bool true) hfll
          rw [← HSET.out] at oS
          go_wp2
          go_meet
          exact ⟨rfl, true, (Ch.upto (oS.re [1]) (by omega)).re [1, 0], K5.trans (qcalm_set (Calm.refl v5))⟩
        | false =>
          go_wp2_with fail
          refine (next_spec w cb (0 + 1 + 1 + 1 + n + 20 * i + 2 * n) 4 _ _ (by omega) (by omega) (by omega) (o5.re [1, 2])).mono ?_
          rintro e8 v8 ⟨q, hq0, hq1, rfl, o8, k8⟩
          obtain ⟨g8, hg8, hc8, hf8, hl8⟩ := (o8.up 2).slc_cell (by omega)
          cases hg8
          have d8 := hc8 2 (.bool h0.good) (flat_get headC_len H 0 2 h0 HH.out (by omega))
          have hz8 := hf8 2
          have oS := (o8.up 2).slc_set 2 (.bool (decide (0 < q))) hfll
          rw [← HSET.out] at oS
          clear hc8 hf8
          go_wp2
          go_meet
          exact ⟨rfl, _, oS.re [0, 1, 2], K5.trans (k8.trans (qcalm_set (Calm.refl v8)))⟩
      case rest =>
        obtain ⟨rfl, z, oS, kS⟩ := hcut
        clear o5 K5 d2 hf2 hgl hfll
        obtain ⟨g1, g2, g3⟩ := set_good hH.1 HH.out z
        have hlo := lagOf_spec hI 0 (oS.re [4])
        obtain ⟨L0, hL0⟩ : ∃ L0, lagO s.D 0 = L0 := ⟨_, rfl⟩
        rw [hL0] at hlo
        have HG := Lib.hid (And.intro g1 g2)
        have HL0 := Lib.hid hL0
        clear hL0 g1 g2 g3
        have hgh : (H.set 0 { h0 with good := z })[0]? = some { h0 with good := z } := HG.out.2
        go_upto_region 12 with fail
        go_cut [66] (fun v wc => ∃ Z : Bool, v = .bool Z ∧ (Z = false → L0 < 0 ∧ z = true) ∧ Own wc (slc 35 3 (some ⟨g, 0, none⟩) n c5 (flat headC (H.set 0 { h0 with good := z })) :: Ch w cb (0 + 1 + 1 + 1 + n + 20 * i + 2 * n + 1 + 1) :: old w :: slc 3 1 a1 n c1 ((idI n).map (Value.int .i64)) :: CqF b (nu : Int) (de : Int) reb i s :: cel ab 26 [.int .i64 (nu : Int), .int .i64 (de : Int)] :: []) ∧ Calm w wc)
        case first =>
          by_cases hL : 0 ≤ L0
          · have hd : decide (0 ≤ L0) = true := by simpa using hL
            go_wp2_with fail
            refine hlo.mono ?_
            rintro e6 v6 ⟨rfl, o6, k6⟩
            go_wp2
            go_meet
            exact ⟨true, rfl, fun h => (by cases h), (Ch.upto (o6.re [2]) (by omega)).re [2, 0, 3, 4, 1], kS.trans k6⟩
          · have hd : decide (0 ≤ L0) = false := by simpa using hL
            have hLn : L0 < 0 := by omega
            have HLN := Lib.hid hLn
            clear hL hLn
            go_wp2_with fail
            refine hlo.mono ?_
            rintro e6 v6 ⟨rfl, o6, k6⟩
            obtain ⟨g6, hg6, hc6, hf6, hl6⟩ := (o6.up 1).slc_cell (by omega)
            cases hg6
            have d6 := hc6 2 (.bool z) (flat_get headC_len _ 0 2 _ hgh (by omega))
            cases z with
            | false =>
              go_wp2
              go_meet
              exact ⟨true, rfl, fun h => (by cases h), (Ch.upto (o6.re [2]) (by omega)).re [2, 0, 3, 4, 1], kS.trans k6⟩
            | true =>
              go_wp2_with fail
              refine (next_spec w cb (0 + 1 + 1 + 1 + n + 20 * i + 2 * n + 1) 30 _ _ (by omega) (by omega) (by omega) (o6.re [2, 3])).mono ?_
              rintro e7 v7 ⟨q, hq0, hq1, rfl, o7, k7⟩
              go_wp2
              go_meet
              exact ⟨_, rfl, fun _ => ⟨HLN.out, trivial⟩, o7.re [3, 0, 1, 4, 2], kS.trans (k6.trans k7)⟩
        case rest =>
          obtain ⟨Z, rfl, hZ, oT, kT⟩ := hcut
          clear oS kS hlo
          have HZ := Lib.hid hZ
          clear hZ
          have hlo2 := lagOf_spec hI 0 (oT.re [4])
          rw [HL0.out] at hlo2
          go_upto_if 66 with fail
          go_cut [9, 10] (fun v9 v10 wc => ∃ ch2 re2 : Nat, v9 = .int .i64 (ch2 : Int) ∧ v10 = .int .i64 (re2 : Int) ∧ ch2 ≤ 4096 * i ∧ re2 ≤ 4096 * i ∧
            (L0 < 0 → pOf (nu : Int) (de : Int) (cntO s.n 0) - 4096 * ((de : Int) - (nu : Int)) ≤ pOf (nu : Int) (de : Int) ((ch2 : Int), (re2 : Int))) ∧ (¬ (L0 < 0 ∧ z = true) → ch2 = 0 ∧ re2 = 0) ∧ Own wc (slc 35 3 (some ⟨g, 0, none⟩) n c5 (flat headC (H.set 0 { h0 with good := z })) :: Ch w cb (0 + 1 + 1 + 1 + n + 20 * i + 2 * n + 1 + 1) :: old w :: slc 3 1 a1 n c1 ((idI n).map (Value.int .i64)) :: CqF b (nu : Int) (de : Int) reb i s :: cel ab 26 [.int .i64 (nu : Int), .int .i64 (de : Int)] :: []) ∧ Calm w wc)
          case first =>
            cases Z with
            | true =>
              have hq0 : pOf (nu : Int) (de : Int) (((0 : Nat) : Int), ((0 : Nat) : Int)) = 0 := by unfold pOf; simp
              have hlb := (HLB.out 0).2
              have hP0 : L0 < 0 → pOf (nu : Int) (de : Int) (cntO s.n 0) - 4096 * ((de : Int) - (nu : Int)) ≤ pOf (nu : Int) (de : Int) (((0 : Nat) : Int), ((0 : Nat) : Int)) := fun _ => by rw [hq0]; omega
              have HP0 := Lib.hid hP0
              clear hP0 hlb hq0
              go_wp2
              go_meet
              exact ⟨0, 0, rfl, rfl, Nat.zero_le _, Nat.zero_le _, HP0.out, fun _ => ⟨rfl, rfl⟩, oT, kT⟩
            | false =>
              go_wp2
              go_meet
              exact ⟨ch, re, rfl, rfl, hch, hre, by have := HQ.out; rw [HL0.out] at this; exact this, fun hn => absurd (HZ.out trivial) hn, oT, kT⟩
          case rest =>
            obtain ⟨ch2, re2, rfl, rfl, hch2, hre2, hq2, hz2, oU, kU⟩ := hcut
            clear oT kT hch hre
            have hlo3 := lagOf_spec hI 0 (oU.re [4])
            rw [HL0.out] at hlo3
            go_upto_region 14 with fail
            go_cut [13] (fun v wc => v = .bool (decide (L0 < 0) && z) ∧ Own wc (slc 35 3 (some ⟨g, 0, none⟩) n c5 (flat headC (H.set 0 { h0 with good := z })) :: Ch w cb (0 + 1 + 1 + 1 + n + 20 * i + 2 * n + 1 + 1) :: old w :: slc 3 1 a1 n c1 ((idI n).map (Value.int .i64)) :: CqF b (nu : Int) (de : Int) reb i s :: cel ab 26 [.int .i64 (nu : Int), .int .i64 (de : Int)] :: []) ∧ Calm w wc)
            case first =>
              by_cases hL : L0 < 0
              · have hd : decide (L0 < 0) = true := by simpa using hL
                clear hL
                go_wp2_with fail
                refine hlo3.mono ?_
                rintro e6 v6 ⟨rfl, o6, k6⟩
                obtain ⟨g6, hg6, hc6, hf6, hl6⟩ := (o6.up 1).slc_cell (by omega)
                cases hg6
                have d6 := hc6 2 (.bool z) (flat_get headC_len _ 0 2 _ hgh (by omega))
                clear hc6 hf6
                go_wp2
                go_meet
                exact ⟨by simp [hd], o6.re [1, 2, 3, 4, 0], kU.trans k6⟩
              · have hd : decide (L0 < 0) = false := by simpa using hL
                clear hL
                go_wp2_with fail
                refine hlo3.mono ?_
                rintro e6 v6 ⟨rfl, o6, k6⟩
                go_wp2
                go_meet
                exact ⟨by simp [hd], o6.re [1, 2, 3, 4, 0], kU.trans k6⟩
            case rest =>
              obtain ⟨rfl, oV, kV⟩ := hcut
              clear oU kU hlo3
              obtain ⟨ld, hld⟩ : ∃ ld, (decide (L0 < 0) && z) = ld := ⟨_, rfl⟩
              rw [hld]
              have hlen : (H.set 0 { h0 with good := z }).length = n := by rw [List.length_set]; exact HHl.out
              have hft : fitsH s.R.L (H.set 0 { h0 with good := z }) = true := fits_of hfl HG.out.1 fun x hx => by
                rcases List.mem_or_eq_of_mem_set hx with hx | rfl
                · exact ⟨(hH.2 x hx).1, (hH.2 x hx).2.1⟩
                · have := hH.2 h0 (List.mem_of_getElem? HH.out); exact ⟨this.1, this.2.1⟩
              have hne : H.set 0 { h0 with good := z } ≠ [] := fun e => by rw [e] at hlen; simp at hlen; omega
              have hnu : (0 : Int) < (nu : Int) := by have := hA.pos; omega
              have hde : (nu : Int) < (de : Int) := by have := hA.lt; omega
              have hnx := hI.next (by omega) (by omega) (nu : Int) (de : Int) reb hft hne
              have hpt := ptsOf_flows (hI.next_pts (num := (nu : Int)) (den := (de : Int)) (reb := reb) (by omega) (by omega) hft hne)
              have hlbn := lb_step (reb := reb) hI (by omega) (by omega) hft hne hnu hde HLB.out
              have hrd := fun (hl : L0 < 0) (hz : z = true) => lead_round (reb := reb) hI (by omega) (by omega) hft hne hnu hde HLB.out HG.out.1 hgh hz (by rw [HL0.out]; exact hl) (hq2 hl)
              have hst := cqStep_ok (reb := reb) hI (by omega) (by omega) (by omega) hA (c := c5) (headsAt_slc (T := 35) (some ⟨g, 0, none⟩) n c5 (H.set 0 { h0 with good := z }) hlen.symm) hlen.symm hft hne (oV.re [4, 0])
              obtain ⟨S', hS'⟩ : ∃ S', stepC (nu : Int) (de : Int) reb s (H.set 0 { h0 with good := z }) = S' := ⟨_, rfl⟩
              rw [hS'] at hst hnx hpt hlbn
              simp only [hS'] at hrd
              have HNX := Lib.hid hnx
              have HPT := Lib.hid hpt
              have HLBN := Lib.hid hlbn
              have HRD := Lib.hid hrd
              have HLD := Lib.hid hld
              have HZ2 := Lib.hid hz2
              have HLEN := Lib.hid hlen
              clear hnx hpt hlbn hrd hS' hft hld hz2 hq2 hlen hnu hde
              unfold chV at hst
              go_wp2_with fail
              refine hst.mono ?_
              rintro e9 v9 ⟨rfl, o9, k9⟩
              clear hst
              have oT := o9.alloc (.cells #[.int .i64 S'.1.ch, .int .i64 S'.1.sv, .int .i64 S'.1.why] 38)
              have KT := kV.trans (k9.trans (qcalm_alloc (x := .cells #[.int .i64 S'.1.ch, .int .i64 S'.1.sv, .int .i64 S'.1.why] 38) (Calm.refl v9)))
              cases ld with
              | false =>
                have hz := HZ2.out (fun h => by have := HLD.out; rw [decide_eq_true h.1, h.2] at this; cases this)
                obtain ⟨rfl, rfl⟩ := hz
                have hqn : lagO S'.2.2.D 0 < 0 → pOf (nu : Int) (de : Int) (cntO S'.2.2.n 0) - 4096 * ((de : Int) - (nu : Int)) ≤ pOf (nu : Int) (de : Int) (((0 : Nat) : Int), ((0 : Nat) : Int)) := fun _ => by
                  have := (HLBN.out 0).2
                  rw [show pOf (nu : Int) (de : Int) (((0 : Nat) : Int), ((0 : Nat) : Int)) = 0 from by unfold pOf; simp]; omega
                have HQN := Lib.hid hqn
                clear hqn
                have oF := Ch.upto (M := 0 + 1 + 1 + 1 + n + 20 * (i + 1)) ((oT.re [0, 2] 2).re [1]) (by omega)
                go_wp2
                go_roundw
                case rel => exact ⟨i + 1, S'.2.2, 0, 0, rfl, rfl, by go_num, by omega, by omega, by omega, HNX.out.2, HLBN.out, by rw [HPT.out]; exact hfl, HQN.out, oF.re [1, 3, 4, 0, 2], KT⟩
                case measure => simp [Lib.intOf]; omega
              | true =>
                have hl0 : L0 < 0 := by have := HLD.out; rw [Bool.and_eq_true, decide_eq_true_eq] at this; exact this.1
                have hzt : z = true := by have := HLD.out; rw [Bool.and_eq_true, decide_eq_true_eq] at this; exact this.2
                rcases HRD.out hl0 hzt with ⟨hs0, hqn⟩ | ⟨j, x, hsj, hjn, hxj, x1, x2, x3, x4, hfin, hqn⟩
                · have HQN := Lib.hid hqn
                  have hd : decide (S'.1.sv < 0) = true := by simpa using hs0
                  clear hqn hs0 hl0 hzt HRD
                  have oF := Ch.upto (M := 0 + 1 + 1 + 1 + n + 20 * (i + 1)) ((oT.re [0, 2] 2).re [1]) (by omega)
                  go_wp2
                  go_roundw
                  case rel => exact ⟨i + 1, S'.2.2, ch2, re2, rfl, rfl, by go_num, by omega, by omega, by omega, HNX.out.2, HLBN.out, by rw [HPT.out]; exact hfl, HQN.out, oF.re [1, 3, 4, 0, 2], KT⟩
                  case measure => simp [Lib.intOf]; omega
                · subst hzt
                  obtain ⟨hl, hhl⟩ : ∃ hl : Nat, h0.len = (hl : Int) := ⟨h0.len.toNat, by omega⟩
                  obtain ⟨g9, hg9, hc9, _, hl9⟩ := (o9.up 1).slc_cell (by omega)
                  cases hg9
                  have dh := hc9 1 (.int .i64 h0.len) (flat_get headC_len (H.set 0 { h0 with good := true }) 0 1 { h0 with good := true } hgh (by omega))
                  have al0 := Own.cell (T := 26) (vs := [.int .i64 (nu : Int), .int .i64 (de : Int)]) (o9.up 5) 0
                  have al1 := Own.cell (T := 26) (vs := [.int .i64 (nu : Int), .int .i64 (de : Int)]) (o9.up 5) 1
                  have all := Own.celLt (T := 26) (vs := [.int .i64 (nu : Int), .int .i64 (de : Int)]) (o9.up 5)
                  have hhl4 : hl ≤ 4096 := by omega
                  have hgh2 := Lib.hid hgh
                  by_cases hj0 : j = 0
                  · obtain rfl := hj0
                    have hxx : x = { h0 with good := true } := Option.some.inj (hxj.symm.trans hgh)
                    have hsv : S'.1.sv = 0 := hsj
                    rw [hsv] at oT KT hfin hqn ⊢
                    rw [if_pos rfl, hxx] at hfin hqn
                    dsimp only at hfin hqn
                    rw [hhl] at dh hfin hqn
                    have hjd : decide ((n : Int) ≤ 0) = false := decide_eq_false (by omega)
                    generalize S'.1.ch = CH at *
                    generalize S'.1.why = WY at *
                    clear HRD HZ2 HLD hl0 hhl hc9 hgh hne hxx hsj hsv x3 x4 x1 x2 hjn hxj
                    by_cases hc0 : CH = 0
                    · subst hc0
                      rw [if_pos rfl] at hfin hqn
                      have hf2 : -(4096 * (de : Int)) ≤ pOf (nu : Int) (de : Int) (((ch2 + hl : Nat) : Int), ((re2 + hl : Nat) : Int)) := by rw [Int.natCast_add, Int.natCast_add]; exact hfin
                      have hq3 : lagO S'.2.2.D 0 < 0 → pOf (nu : Int) (de : Int) (cntO S'.2.2.n 0) - 4096 * ((de : Int) - (nu : Int)) ≤ pOf (nu : Int) (de : Int) (((ch2 + hl : Nat) : Int), ((re2 + hl : Nat) : Int)) := by rw [Int.natCast_add, Int.natCast_add]; exact hqn
                      have hcall := lead_spec (ch := ch2 + hl) (re := re2 + hl) hA (by omega) (by omega) (by have := hf2; unfold pOf at this; exact this) oT
                      rw [Int.natCast_add, Int.natCast_add] at hcall
                      have HQ3 := Lib.hid hq3
                      clear hfin hqn hf2 hq3
                      go_wp2_with fail
                      refine hcall.mono ?_
                      rintro e10 v10 ⟨rfl, o10, k10⟩
                      clear hcall
                      have oF := Ch.upto (M := 0 + 1 + 1 + 1 + n + 20 * (i + 1)) ((o10.re [0, 2] 2).re [1]) (by omega)
                      go_wp2
                      go_roundw
                      case rel => exact ⟨i + 1, S'.2.2, ch2 + hl, re2 + hl, by rw [Int.natCast_add], by rw [Int.natCast_add], by go_num, by omega, by omega, by omega, HNX.out.2, HLBN.out, by rw [HPT.out]; exact hfl, HQ3.out, oF.re [1, 3, 4, 0, 2], KT.trans k10⟩
                      case measure => simp [Lib.intOf]; omega
                    · have e1 : (CH == 0) = false := by simpa using hc0
                      rw [if_neg hc0] at hfin hqn
                      have hf2 : -(4096 * (de : Int)) ≤ pOf (nu : Int) (de : Int) (((ch2 : Nat) : Int), ((re2 + hl : Nat) : Int)) := by rw [Int.natCast_add]; exact hfin
                      have hq3 : lagO S'.2.2.D 0 < 0 → pOf (nu : Int) (de : Int) (cntO S'.2.2.n 0) - 4096 * ((de : Int) - (nu : Int)) ≤ pOf (nu : Int) (de : Int) (((ch2 : Nat) : Int), ((re2 + hl : Nat) : Int)) := by rw [Int.natCast_add]; exact hqn
                      have hcall := lead_spec (ch := ch2) (re := re2 + hl) hA (by omega) (by omega) (by have := hf2; unfold pOf at this; exact this) oT
                      rw [Int.natCast_add] at hcall
                      have HQ3 := Lib.hid hq3
                      clear hfin hqn hf2 hq3
                      go_wp2_with fail
                      refine hcall.mono ?_
                      rintro e10 v10 ⟨rfl, o10, k10⟩
                      clear hcall
                      have oF := Ch.upto (M := 0 + 1 + 1 + 1 + n + 20 * (i + 1)) ((o10.re [0, 2] 2).re [1]) (by omega)
                      go_wp2
                      go_roundw
                      case rel => exact ⟨i + 1, S'.2.2, ch2, re2 + hl, rfl, by rw [Int.natCast_add], by go_num, by omega, by omega, by omega, HNX.out.2, HLBN.out, by rw [HPT.out]; exact hfl, HQ3.out, oF.re [1, 3, 4, 0, 2], KT.trans k10⟩
                      case measure => simp [Lib.intOf]; omega
                  · obtain ⟨xl, hxl⟩ : ∃ xl : Nat, x.len = (xl : Int) := ⟨x.len.toNat, by omega⟩
                    have dx := hc9 (j * 3 + 1) (.int .i64 x.len) (flat_get headC_len _ j 1 x hxj (by omega))
                    have hxl4 : xl ≤ 4096 := by omega
                    rw [hsj] at oT KT hfin hqn ⊢
                    have hjn0 : ¬ ((j : Int) = 0) := by omega
                    rw [if_neg hjn0, hxl] at hfin hqn
                    rw [hxl] at dx
                    have hjd : decide ((n : Int) ≤ (j : Int)) = false := decide_eq_false (by omega)
                    have hjd0 : decide ((j : Int) < 0) = false := decide_eq_false (by omega)
                    generalize S'.1.ch = CH at *
                    generalize S'.1.why = WY at *
                    clear HRD hsj HZ2 HLD hl0 x1 x2 x3 x4 hxl hhl hc9 hgh hne hxj hjn0
                    by_cases hc0 : CH = 0
                    · subst hc0
                      have e2 : ((j : Int) == 0) = false := by simpa using hj0
                      rw [if_pos rfl] at hfin hqn
                      have hf2 : -(4096 * (de : Int)) ≤ pOf (nu : Int) (de : Int) (((ch2 + xl : Nat) : Int), ((re2 : Nat) : Int)) := by rw [Int.natCast_add]; exact hfin
                      have hq3 : lagO S'.2.2.D 0 < 0 → pOf (nu : Int) (de : Int) (cntO S'.2.2.n 0) - 4096 * ((de : Int) - (nu : Int)) ≤ pOf (nu : Int) (de : Int) (((ch2 + xl : Nat) : Int), ((re2 : Nat) : Int)) := by rw [Int.natCast_add]; exact hqn
                      have hcall := lead_spec (ch := ch2 + xl) (re := re2) hA (by omega) (by omega) (by have := hf2; unfold pOf at this; exact this) oT
                      rw [Int.natCast_add] at hcall
                      have HQ3 := Lib.hid hq3
                      clear hfin hqn hf2 hq3
                      go_wp2_with fail
                      refine hcall.mono ?_
                      rintro e10 v10 ⟨rfl, o10, k10⟩
                      clear hcall
                      have oF := Ch.upto (M := 0 + 1 + 1 + 1 + n + 20 * (i + 1)) ((o10.re [0, 2] 2).re [1]) (by omega)
                      go_wp2
                      go_roundw
                      case rel => exact ⟨i + 1, S'.2.2, ch2 + xl, re2, by rw [Int.natCast_add], rfl, by go_num, by omega, by omega, by omega, HNX.out.2, HLBN.out, by rw [HPT.out]; exact hfl, HQ3.out, oF.re [1, 3, 4, 0, 2], KT.trans k10⟩
                      case measure => simp [Lib.intOf]; omega
                    · have e1 : (CH == 0) = false := by simpa using hc0
                      have e2 : ((j : Int) == 0) = false := by simpa using hj0
                      rw [if_neg hc0] at hfin hqn
                      have hf2 : -(4096 * (de : Int)) ≤ pOf (nu : Int) (de : Int) (((ch2 : Nat) : Int), ((re2 : Nat) : Int)) := by exact hfin
                      have hq3 : lagO S'.2.2.D 0 < 0 → pOf (nu : Int) (de : Int) (cntO S'.2.2.n 0) - 4096 * ((de : Int) - (nu : Int)) ≤ pOf (nu : Int) (de : Int) (((ch2 : Nat) : Int), ((re2 : Nat) : Int)) := by exact hqn
                      have hcall := lead_spec (ch := ch2) (re := re2) hA (by omega) (by omega) (by have := hf2; unfold pOf at this; exact this) oT
                      have HQ3 := Lib.hid hq3
                      clear hfin hqn hf2 hq3
                      go_wp2_with fail
                      refine hcall.mono ?_
                      rintro e10 v10 ⟨rfl, o10, k10⟩
                      clear hcall
                      have oF := Ch.upto (M := 0 + 1 + 1 + 1 + n + 20 * (i + 1)) ((o10.re [0, 2] 2).re [1]) (by omega)
                      go_wp2
                      go_roundw
                      case rel => exact ⟨i + 1, S'.2.2, ch2, re2, rfl, rfl, by go_num, by omega, by omega, by omega, HNX.out.2, HLBN.out, by rw [HPT.out]; exact hfl, HQ3.out, oF.re [1, 3, 4, 0, 2], KT.trans k10⟩
                      case measure => simp [Lib.intOf]; omega
    · go_wp2_with fail
      refine (awake24_spec oR).mono ?_
      rintro e8 v8 ⟨rfl, o8, k8⟩
      go_wp2
      go_ret
      exact ⟨rfl, below_of (o8.re [4]) (kR.trans k8)⟩
end
end Go.Proofs.YtkmlkpfabkhleaaGreat
