/- The error-free reference of the program: Charge. -/
import Derived.Test.YtnandakoigmknaaSfqC
namespace Go.Proofs.Ytnandakoigmknaa
open Go.RowKit
open SP

section
variable {W w w' : World} {b : Nat} {reb : Int} {S : St} {R : List SP}

/-- The reference with its maps named. -/
def SfqK (b : Nat) (reb : Int) (ab rb : Nat) (S : St) (m : List (Int × Tg)) (rem : List (Int × Int)) : SP :=
  st [cel b 93 [.int .i64 reb, .map (some ab), .map (some rb), .int .i64 S.tm, .int .i64 S.aw], mpI tagV ab m, mpI (Value.int .i64) rb rem]
theorem SfqK.iff {ab rb : Nat} {m : List (Int × Tg)} {rem : List (Int × Int)} : Own w (SfqK b reb ab rb S m rem :: R) ↔
    Own w (cel b 93 [.int .i64 reb, .map (some ab), .map (some rb), .int .i64 S.tm, .int .i64 S.aw] :: mpI tagV ab m :: mpI (Value.int .i64) rb rem :: R) := Own.st

theorem chargeR_err {f len : Int} {t : Tg} (h : fget S.L f = some t) (he : (finF t.s len t.w).2 ≠ 0) : chargeR reb S f len = ((finF t.s len t.w).2, S) := by
  unfold chargeR; rw [h]; exact if_pos he
theorem chargeR_ok {f len nx : Int} {t : Tg} (h : fget S.L f = some t) (he : finF t.s len t.w = (nx, 0)) : chargeR reb S f len = (0, rebS reb (chS S t nx)) := by
  unfold chargeR; rw [h]; simp only [he]; exact if_neg (by simp)

set_option maxHeartbeats 6400000 in
set_option maxRecDepth 100000 in
theorem sfqCharge_spec (f len : Int) (haw : 0 ≤ S.aw ∧ S.aw ≤ 1152921504606846976) (o : Own w (SfqR b reb S :: R)) :
    Calls Try.prog 30 #[.pointer (some ⟨b, 0, none⟩), .int .i64 f, .int .i64 len] w (Ret (.int .i64 (chargeR reb S f len).1) (SfqR b reb (chargeR reb S f len).2 :: R) w) := by
  obtain ⟨ab, rb, m, rem, hm, hold, hur, hok, o1⟩ := SfqR.iff.1 o
  have c1 := o1.cell 1
  have Hold := Lib.hid hold
  clear hold
  cases hf : fget S.L f with
  | none =>
    have e : chargeR reb S f len = (6, S) := by unfold chargeR; rw [hf]
    rw [e]; clear e
    have hlk := lookT_none (o1.up 1) hm hf
    clear hf
    go_enter Try.func30, Try.ntmps30
    go_wp2
    go_ret
    exact ⟨rfl, o.more _, ⟨rfl, rfl, rfl⟩⟩
  | some t =>
    have hlk := lookT_some (o1.up 1) hm hf
    have hbl := o1.celLt
    obtain ⟨htm, htf⟩ := fget_some hf
    obtain ⟨x, y, z⟩ := t
    dsimp only at htf
    subst htf
    have htr := hok.ok.rng _ htm
    dsimp only at htr hlk
    cases hfin : finF z len y with
    | mk nx er =>
    have hfs := finish_spec z len y
    rw [hfin] at hfs
    unfold pairV at hfs
    dsimp only at hfs
    by_cases her : er = 0
    · subst her
      rw [chargeR_ok hf hfin]
      have hok2 := finF_ok (show (finF z len y).2 = 0 by rw [hfin])
      rw [hfin] at hok2
      have hnx : 0 ≤ nx ∧ nx ≤ 1099511627776 := by
        obtain ⟨h1, h2, h3, h4⟩ := hok2
        dsimp only at h1
        have := cst_range (len := len) (wt := y) (by unfold badLW at h2; omega) (by unfold badLW at h2; omega) (by unfold badLW at h2; omega) (by unfold badLW at h2; omega)
        omega
      have hokC := hok.ch htm hnx
      have hrep : Rep (mput m x ⟨x, y, nx⟩) (setT ⟨x, y, nx⟩ S.L) := by
        have := hm.set (x := ⟨x, y, nx⟩) (by rw [hf]; simp) ⟨htr.1, htr.2.1, htr.2.2.1, htr.2.2.2.1, hnx.1, hnx.2⟩
        exact this
      have hne : S.L ≠ [] := List.ne_nil_of_mem htm
      have c3 := o1.cell 3
      obtain ⟨tm1, htm1⟩ : ∃ x, max S.tm z = x := ⟨_, rfl⟩
      have hST : chS S ⟨x, y, z⟩ nx = ⟨setT ⟨x, y, nx⟩ S.L, S.old, tm1, S.aw⟩ := by unfold chS; rw [htm1]
      have oM := (o1.setCell 3 (.int .i64 tm1)).alloc (.cells #[.int .i64 x, .int .i64 y, .int .i64 nx] 64)
      have hne1 : setT (⟨x, y, nx⟩ : Tg) S.L ≠ [] := setT_ne hne
      rw [hST] at hokC ⊢
      have gf := o1.frozen
      clear hfin hok2 hf hne hST
      go_enter Try.func30, Try.ntmps30
      go_wp2_with (go_at_call 45; refine (hfs _).mono ?_; rintro e2 w2 ⟨rfl, rfl⟩)
      refine wp_region_tail 8 (by kernel_rfl) (by kernel_rfl) ?_
      simp only [List.take_succ_cons, List.take_zero, List.drop_succ_cons, List.drop_zero]
      repeat still_step
      refine wpStill_nil ?_
      go_wp2
      refine wp_region_tail 6 (by kernel_rfl) (by kernel_rfl) ?_
      simp only [List.take_succ_cons, List.take_zero, List.drop_succ_cons, List.drop_zero]
      repeat still_step
      refine wpStill_nil ?_
      go_wp2_with (at_mapUpdate; refine wpList_mapUpdate_mpI (f := tagV) rfl _ _ _ rfl Try.underlying91 Try.underlying3 (((oM.up 2).drew).drew) x ⟨x, y, nx⟩ rfl rfl rfl ?c1)
      case c1 =>
      intro w3 o3 k3
      have oS : Own w3 (SfqR b reb ⟨setT ⟨x, y, nx⟩ S.L, S.old, tm1, S.aw⟩ :: R) := SfqR.iff.2 ⟨ab, rb, _, rem, hrep, Hold.out, hur, hokC, o3.re [1, 2, 0, 3] 1⟩
      have K3 : Calm w w3 := ⟨k3.os, k3.tape, k3.output⟩
      clear o3 k3 oM hrep gf c3 hbl hlk c1 o1
      have hbS : byS ⟨setT ⟨x, y, nx⟩ S.L, S.old, tm1, S.aw⟩ = min tm1 (lst (setT ⟨x, y, nx⟩ S.L)).s := rfl
      have hrb := byS_rng hokC hne1
      have HR : Hid (rebS reb ⟨setT ⟨x, y, nx⟩ S.L, S.old, tm1, S.aw⟩ = if byS ⟨setT ⟨x, y, nx⟩ S.L, S.old, tm1, S.aw⟩ < reb then ⟨setT ⟨x, y, nx⟩ S.L, S.old, tm1, S.aw⟩ else subS ⟨setT ⟨x, y, nx⟩ S.L, S.old, tm1, S.aw⟩ (byS ⟨setT ⟨x, y, nx⟩ S.L, S.old, tm1, S.aw⟩)) := Lib.hid rfl
      obtain ⟨S1, hS1⟩ : ∃ S1 : St, S1 = ⟨setT ⟨x, y, nx⟩ S.L, S.old, tm1, S.aw⟩ := ⟨_, rfl⟩
      have e1 : setT ⟨x, y, nx⟩ S.L = S1.L := by rw [hS1]
      have e2 : tm1 = S1.tm := by rw [hS1]
      have e3 : S.aw = S1.aw := by rw [hS1]
      rw [← hS1] at oS HR hrb hbS hokC
      rw [e1, e2] at hbS
      rw [e1] at hne1
      rw [e3] at haw
      have HE1 := Lib.hid hS1
      clear hS1 e1 e2 e3 htm1
      obtain ⟨by_, hby⟩ : ∃ y, byS S1 = y := ⟨_, rfl⟩
      rw [hby] at hbS HR hrb
      clear hby hur htr
      go_wp2_with fail
      refine (sfqTags_spec oS).mono ?_
      rintro e4 w4 ⟨a, c, rfl, o4, k4⟩
      obtain ⟨ab2, rb2, m2, rem2, hm2, hold2, hur2, _, o5⟩ := SfqR.iff.1 (o4.up 1)
      have o6 : Own w4 (slc 64 3 a S1.L.length c (flat tagC S1.L) :: SfqK b reb ab2 rb2 S1 m2 rem2 :: R) := Own.swap (SfqK.iff.2 o5)
      have hS := tagsAt_slc a S1.L.length c S1.L rfl
      have hlt := leastN_lt hne1
      have hgt : S1.L[leastN S1.L]? = some (lst S1.L) := by unfold lst; rw [List.getD_eq_getElem?_getD, List.getElem?_eq_getElem hlt]; rfl
      have hl32 := hokC.ok.len
      have hlc := tagsLeast_spec (c := c) hS hokC.ok rfl o6.drew
      rw [if_neg hne1] at hlc
      have Hold2 := Lib.hid hold2
      have hkeep := o5.cell 3
      clear o5 o4
      have hat : ∀ (w : World) (R : List SP), Own w (slc 64 3 a S1.L.length c (flat tagC S1.L) :: R) → ∃ g so, a = some ⟨g, so, none⟩ ∧ w.cell? ⟨g, so + leastN S1.L * 3 + 2, none⟩ = some (.int .i64 (lst S1.L).s) := fun w R o => by
        obtain ⟨g, so, h1, _, _, h2⟩ := hS w R o _ _ hgt
        exact ⟨g, so, h1, h2⟩
      obtain ⟨g, so, hga, _⟩ := hat _ _ o6
      subst hga
      have hat2 : ∀ (w : World) (R : List SP), Own w (slc 64 3 (some ⟨g, so, none⟩) S1.L.length c (flat tagC S1.L) :: R) → w.cell? ⟨g, so + leastN S1.L * 3 + 2, none⟩ = some (.int .i64 (lst S1.L).s) := fun w R o => by
        obtain ⟨g', so', h1, h2⟩ := hat w R o
        cases h1
        exact h2
      have Hat := Lib.hid hat2
      have HBS := Lib.hid hbS
      clear hgt hS hold2 hat hat2 hbS
      generalize leastN S1.L = k at *
      generalize (lst S1.L).s = ls at *
      have htmr := hokC.tm
      have hmn : min S1.tm ls = by_ := HBS.out.symm
      have hkeep2 := Hat.out _ _ o6
      go_wp2
      go_region_held3 (fun w' => w'.cell? ⟨b, 3, none⟩ = some (.int .i64 S1.tm) ∧ w'.cell? ⟨g, so + k * 3 + 2, none⟩ = some (.int .i64 ls)) (go_keep) (first
        | (go_at_call 54; (with_reducible refine hlc.mono ?_); rintro e5 w5 ⟨rfl, o7, k7⟩; have q0 := (SfqK.iff.1 (o7.up 1)).cell 0; have q3 := (SfqK.iff.1 (o7.up 1)).cell 3; have ql := Hat.out _ _ o7))
      have o8 : Own w5 (SfqR b reb S1 :: slc 64 3 (some ⟨g, so, none⟩) S1.L.length c (flat tagC S1.L) :: R) := SfqR.iff.2 ⟨ab2, rb2, m2, rem2, hm2, Hold2.out, hur2, hokC, SfqK.iff.1 o7.swap⟩
      have K7 : Calm w w5 := K3.trans (k4.trans ⟨k7.os, k7.tape, k7.output⟩)
      clear ql q3 hkeep hkeep2 hmn hlc
      by_cases hcmp : by_ < reb
      · go_wp2
        go_ret
        have e1 : rebS reb ⟨setT ⟨x, y, nx⟩ S.L, S.old, tm1, S.aw⟩ = S1 := by rw [← HE1.out, HR.out, if_pos hcmp]
        rw [e1]
        exact ⟨rfl, o8.swap.drop, K7⟩
      · have hsub := sfqSub_spec by_ hrb.1 hrb.2.1 hrb.2.2 haw o8
        clear hrb
        go_wp2_with fail
        refine hsub.mono ?_
        rintro e6 w6 ⟨rfl, o9, k9⟩
        go_wp2
        go_ret
        have e1 : rebS reb ⟨setT ⟨x, y, nx⟩ S.L, S.old, tm1, S.aw⟩ = subS S1 by_ := by rw [← HE1.out, HR.out, if_neg (by omega)]
        rw [e1]
        exact ⟨rfl, o9.swap.drop, K7.trans k9⟩
    · rw [chargeR_err (f := x) hf (by rw [hfin]; exact her)]
      rw [hfin]
      have her' : (er != 0) = true := by simpa using her
      clear hfin hf
      go_enter Try.func30, Try.ntmps30
      go_wp2_with (go_at_call 45; refine (hfs _).mono ?_; rintro e2 w2 ⟨rfl, rfl⟩)
      go_ret
      exact ⟨rfl, o.more _, ⟨rfl, rfl, rfl⟩⟩
theorem sfqCharge_as {f len er : Int} {S' : St} (h : chargeR reb S f len = (er, S')) (haw : 0 ≤ S.aw ∧ S.aw ≤ 1152921504606846976) (o : Own w (SfqR b reb S :: R)) :
    Calls Try.prog 30 #[.pointer (some ⟨b, 0, none⟩), .int .i64 f, .int .i64 len] w (Ret (.int .i64 er) (SfqR b reb S' :: R) w) := by
  have := sfqCharge_spec f len haw o
  rw [h] at this
  exact this
end
end Go.Proofs.Ytnandakoigmknaa
