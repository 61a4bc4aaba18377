/- The reference's ledger: Transfer. -/
import Derived.Test.YtalkmeclkjnjnaaLedC
import Derived.Test.YtalkmeclkjnjnaaLagX
namespace Go.Proofs.Ytalkmeclkjnjnaa
open Go.RowKit
open SP
section
variable {P W' : SP} {W w w' : World} {R : List SP} {b : Nat} {L : List Tg}
set_option maxHeartbeats 6400000 in
set_option maxRecDepth 100000 in
theorem ledMove_spec {N : Nat} (c s n : Int) (hok : LgOk N L) (hN : (N : Int) ≤ 1000000000000) (o : Own w (LedR P b L :: P :: R)) :
    Calls Try.prog 20 #[.pointer (some ⟨b, 0, none⟩), .int .i64 c, .int .i64 s, .int .i64 n] w (LedPost (.int .i64 (nMove L c s n).1) b (nMove L c s n).2 P R w) := by
  have hL := hok.ok.len
  have hat := ledAt_spec c (by omega) o
  have hat2 := ledAt_spec s (by omega) o
  cases hfa : fget L c with
  | none =>
    rw [nMove_none (.inl hfa)]
    rw [idxT_none 0 L hfa] at hat
    obtain ⟨j, hj⟩ : ∃ j, idxT s 0 L = j := ⟨_, rfl⟩
    rw [hj] at hat2
    clear hfa hok hj
    go_enter Try.func20, Try.ntmps20
    go_wp2_with fail
    refine hat.mono ?_
    rintro e1 w1 ⟨rfl, rfl⟩
    go_wp2_with fail
    refine hat2.mono ?_
    rintro e1 w1 ⟨rfl, rfl⟩
    go_wp2
    go_ret
    exact LedPost.same o ⟨rfl, rfl⟩
  | some a =>
    obtain ⟨i, hi, hai⟩ := idxT_some 0 L hfa
    rw [hai, Nat.zero_add] at hat
    cases hfd : fget L s with
    | none =>
      rw [nMove_none (.inr hfd)]
      rw [idxT_none 0 L hfd] at hat2
      clear hfa hok hfd hi hai
      go_enter Try.func20, Try.ntmps20
      go_wp2_with fail
      refine hat.mono ?_
      rintro e1 w1 ⟨rfl, rfl⟩
      go_wp2_with fail
      refine hat2.mono ?_
      rintro e1 w1 ⟨rfl, rfl⟩
      go_wp2
      go_ret
      exact LedPost.same o ⟨rfl, rfl⟩
    | some d =>
      obtain ⟨k, hk, hak⟩ := idxT_some 0 L hfd
      rw [hak, Nat.zero_add] at hat2
      rw [nMove_some hfa hfd]
      by_cases hbad : n < 1 ∨ 4096 < n
      · rw [if_pos hbad]
        by_cases h1 : n < 1
        · clear hbad hi hk hai hak
          go_enter Try.func20, Try.ntmps20
          go_wp2_with fail
          refine hat.mono ?_
          rintro e1 w1 ⟨rfl, rfl⟩
          go_wp2_with fail
          refine hat2.mono ?_
          rintro e1 w1 ⟨rfl, rfl⟩
          go_wp2
          go_ret
          exact LedPost.same o ⟨rfl, rfl⟩
        · have h2 : 4096 < n := by omega
          clear hbad hi hk hai hak
          go_enter Try.func20, Try.ntmps20
          go_wp2_with fail
          refine hat.mono ?_
          rintro e1 w1 ⟨rfl, rfl⟩
          go_wp2_with fail
          refine hat2.mono ?_
          rintro e1 w1 ⟨rfl, rfl⟩
          go_wp2
          go_ret
          exact LedPost.same o ⟨rfl, rfl⟩
      · rw [if_neg hbad]
        have h1 : ¬ n < 1 := by omega
        have h2 : ¬ 4096 < n := by omega
        clear hbad
        by_cases hcs : c = s
        · rw [if_pos hcs]
          subst hcs
          have hik : k = i := by rw [hai] at hak; omega
          subst hik
          clear hi hk hai hak hfa hfd hok
          go_enter Try.func20, Try.ntmps20
          go_wp2_with fail
          refine hat.mono ?_
          rintro e1 w1 ⟨rfl, rfl⟩
          go_wp2_with fail
          refine hat2.mono ?_
          rintro e1 w1 ⟨rfl, rfl⟩
          go_wp2
          go_ret
          exact LedPost.same o ⟨rfl, rfl⟩
        · rw [if_neg hcs]
          have hac := (fget_some hfa).2
          have hds := (fget_some hfd).2
          have hik : ((i : Int) == (k : Int)) = false := by
            rw [beq_eq_false_iff_ne]; intro h
            have : i = k := by omega
            subst this
            rw [hi] at hk; cases hk
            exact hcs (hac.symm.trans hds)
          have hikn : i ≠ k := by intro h; subst h; simp at hik
          have hla2 := hok.lag (fget_some hfa).1
          have hld2 := hok.lag (fget_some hfd).1
          obtain ⟨x, hx⟩ : ∃ x, a.s + n = x := ⟨_, rfl⟩
          obtain ⟨y, hy⟩ : ∃ y, d.s - n = y := ⟨_, rfl⟩
          have wx : IntKind.i64.wrap (a.s + n) = x := by rw [IntKind.wrap_i64]; omega
          have wy : IntKind.i64.wrap (d.s - n) = y := by rw [IntKind.wrap_i64]; omega
          rw [hx, hy]
          have hset1 := setT_atP (x := ⟨c, a.w, x⟩) hok.ok.asc hi hac.symm
          have hfs1 := flat_set tagC_len L i 2 a ⟨c, a.w, x⟩ (.int .i64 x) hi (by omega) (by show [_, _, _] = [_, _, _]; rw [← hac])
          have hk2 : (L.set i ⟨c, a.w, x⟩)[k]? = some d := by rw [List.getElem?_set_ne hikn]; exact hk
          have hasc2 : (setT ⟨c, a.w, x⟩ L).Pairwise fun a b => a.f < b.f := by rw [asc_iff, setT_f, ← asc_iff]; exact hok.ok.asc
          rw [← hset1] at hasc2
          have hset2 := setT_atP (x := ⟨s, d.w, y⟩) hasc2 hk2 hds.symm
          have hfs2 := flat_set tagC_len _ k 2 d ⟨s, d.w, y⟩ (.int .i64 y) hk2 (by omega) (by show [_, _, _] = [_, _, _]; rw [← hds])
          have hfg1 := flat_get tagC_len L i 2 a hi (by omega)
          have hfg2 := flat_get tagC_len _ k 2 d hk2 (by omega)
          have HS1 := Lib.hid hset1
          have HS2 := Lib.hid hset2
          have HF1 := Lib.hid hfs1
          have HF2 := Lib.hid hfs2
          have HG1 := Lib.hid hfg1
          have HG2 := Lib.hid hfg2
          obtain ⟨al, cl, ⟨⟨hP, hs⟩, hc⟩, o1⟩ := LedR.iff.1 o
          obtain ⟨g, so, rfl, _, _, d2⟩ := hP _ _ (o1.up 1) i a hi
          obtain ⟨g', so', hgg, _, _, e2⟩ := hP _ _ (o1.up 1) k d hk
          cases hgg
          have c1 := o1.cell 0
          have clt := o1.celLt
          have cf := o1.frozen
          have hil := (List.getElem?_eq_some_iff.1 hi).1
          have hkl := (List.getElem?_eq_some_iff.1 hk).1
          clear hi hk hai hak hfa hfd hok hset1 hset2 hfs1 hfs2 hfg1 hfg2 hk2 hasc2 hac hds hla2 hld2 hx hy
          by_cases A1 : 1099511627776 < x
          · rw [if_pos (.inl A1)]
            have f1 : decide (1099511627776 < x) = true := decide_eq_true A1
            clear A1
            go_enter Try.func20, Try.ntmps20
            go_wp2_with fail
            refine hat.mono ?_
            rintro e1 w1 ⟨rfl, rfl⟩
            go_wp2_with fail
            refine hat2.mono ?_
            rintro e1 w1 ⟨rfl, rfl⟩
            go_wp2
            go_ret
            exact LedPost.same o ⟨rfl, rfl⟩
          · have f1 : decide (1099511627776 < x) = false := decide_eq_false A1
            by_cases A2 : y < -1099511627776
            · rw [if_pos (.inr (.inr (.inr A2)))]
              have f2 : decide (y < -1099511627776) = true := decide_eq_true A2
              clear A1 A2
              go_enter Try.func20, Try.ntmps20
              go_wp2_with fail
              refine hat.mono ?_
              rintro e1 w1 ⟨rfl, rfl⟩
              go_wp2_with fail
              refine hat2.mono ?_
              rintro e1 w1 ⟨rfl, rfl⟩
              go_wp2
              go_ret
              exact LedPost.same o ⟨rfl, rfl⟩
            · have f2 : decide (y < -1099511627776) = false := decide_eq_false A2
              by_cases A3 : x < -1099511627776
              · rw [if_pos (.inr (.inr (.inl A3)))]
                have f3 : decide (x < -1099511627776) = true := decide_eq_true A3
                clear A1 A2 A3
                go_enter Try.func20, Try.ntmps20
                go_wp2_with fail
                refine hat.mono ?_
                rintro e1 w1 ⟨rfl, rfl⟩
                go_wp2_with fail
                refine hat2.mono ?_
                rintro e1 w1 ⟨rfl, rfl⟩
                go_wp2
                go_ret
                exact LedPost.same o ⟨rfl, rfl⟩
              · have f3 : decide (x < -1099511627776) = false := decide_eq_false A3
                by_cases A4 : 1099511627776 < y
                · rw [if_pos (.inr (.inl A4))]
                  have f4 : decide (1099511627776 < y) = true := decide_eq_true A4
                  clear A1 A2 A3 A4
                  go_enter Try.func20, Try.ntmps20
                  go_wp2_with fail
                  refine hat.mono ?_
                  rintro e1 w1 ⟨rfl, rfl⟩
                  go_wp2_with fail
                  refine hat2.mono ?_
                  rintro e1 w1 ⟨rfl, rfl⟩
                  go_wp2
                  go_ret
                  exact LedPost.same o ⟨rfl, rfl⟩
                · have f4 : decide (1099511627776 < y) = false := decide_eq_false A4
                  rw [if_neg (by omega)]
                  clear A1 A2 A3 A4
                  have oZ := slc_zero (e := 70) (size := 3) ((o1.alloc (.cells #[] 70)))
                  have hsrc := tags_src (c := cl) hP rfl (oZ.up 2)
                  go_enter Try.func20, Try.ntmps20
                  go_wp2_with fail
                  refine hat.mono ?_
                  rintro e1 w1 ⟨rfl, rfl⟩
                  go_wp2_with fail
                  refine hat2.mono ?_
                  rintro e1 w1 ⟨rfl, rfl⟩
                  go_wp2_with (at_builtin; refine wpList_append_src rfl _ _ rfl Try.lineT rfl oZ rfl hsrc (by unfold maxLen; omega) (by omega) ?k1)
                  case k1 =>
                  intro a5 c5 w5 o5 k5
                  have q1 := (o5.up 1).cell 0
                  have ql := (o5.up 1).celLt
                  have qf := (o5.up 1).frozen
                  have oS := ((o5.up 1).setCell 0 (.slice a5 L.length c5))
                  have s1 := oS.cell 0
                  rcases Own.slc.1 (oS.up 1) with ⟨_, hz, _⟩ | ⟨g, sp, rfl, _, hcm, _, _, _⟩
                  · omega
                  · obtain ⟨g', hg', hc', hf', hl'⟩ := (oS.up 1).slc_cell (by omega)
                    cases hg'
                    have z1 := hc' (i * 3 + 2) _ HG1.out
                    have o7 := (oS.up 1).slc_set (i * 3 + 2) (.int .i64 x) (by rw [flat_length tagC_len]; omega)
                    rw [← HF1.out] at o7
                    obtain ⟨g', hg', hc2, hf2, hl2⟩ := o7.slc_cell (by omega)
                    cases hg'
                    have z2 := hc2 (k * 3 + 2) _ HG2.out
                    have s2 := (o7.up 1).cell 0
                    have o8 := o7.slc_set (k * 3 + 2) (.int .i64 y) (by rw [flat_length tagC_len, List.length_set]; omega)
                    rw [← HF2.out, HS2.out, HS1.out] at o8
                    have hlen : L.length = (setT ⟨s, d.w, y⟩ (setT ⟨c, a.w, x⟩ L)).length := by rw [← HS1.out, ← HS2.out, List.length_set, List.length_set]
                    have oE := led_new (L2 := setT ⟨s, d.w, y⟩ (setT ⟨c, a.w, x⟩ L)) hlen rfl o8
                    clear hlen
                    go_wp2
                    go_ret
                    exact ⟨_, PExtT.add _ _, rfl, oE, Calm.trans ⟨k5.os, k5.tape, k5.output⟩ ⟨rfl, rfl, rfl⟩⟩
end
end Go.Proofs.Ytalkmeclkjnjnaa
