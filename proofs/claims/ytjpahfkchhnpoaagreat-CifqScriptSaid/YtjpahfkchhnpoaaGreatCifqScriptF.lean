/- Texts that the law rests on, put together by a program. -/
import Derived.Test.YtjpahfkchhnpoaaGreatCifqScriptE
import Derived.Deep.RegionHeld3
import Derived.Test.YtjpahfkchhnpoaaGreatCifqScriptC
/- The reference of chapter 12: ValidTags, Least, Select, Cost, Finish. -/
namespace Go.Proofs.YtjpahfkchhnpoaaGreat
open Go.RowKit
open SP
section
variable {P : SP} {W w w' : World} {R : List SP} {b : Nat} {at_ now aw : Int} {L O : List Tg}
theorem quiet_form {g : Nat} {args : Array Value} {v : Value} {w : World} (h : Calls Tryz.prog g args w (IsRet v w)) : Calls Tryz.prog g args w (fun e w' => e = .returned v ∧ w' = w) := h.mono (by rintro e w' ⟨rfl, rfl⟩; exact ⟨rfl, rfl⟩)
def VtRel (L : List Tg) (Sp : SP) (R : List SP) (w : World) (v3 : Value) (wr : World) : Prop :=
  ∃ (i : Nat), v3 = .int .i64 (i : Int) ∧ i ≤ L.length ∧ Own wr (Sp :: R) ∧ Calm w wr
set_option maxHeartbeats 3200000 in
set_option maxRecDepth 100000 in
theorem validT_spec {Sp : SP} {L : List Tg} {a : Option Addr} {n c : Nat} (hS : TagsAt Sp a L) (hok : LOk L) (hn : n = L.length) (o : Own w (Sp :: R)) :
    Calls Tryz.prog 123 #[.slice a n c] w (Ret (.bool true) (Sp :: R) w) := by
  have hT : VtRel L Sp R w (.int .i64 0) w := ⟨0, rfl, by omega, o, Calm.refl w⟩
  have hl := hok.len
  have hn2 : n ≤ 32 := by omega
  have Hn := Lib.hid hn
  clear hn
  go_enter Tryz.func123, Tryz.ntmps123
  go_wp2
  go_loopw [3] (fun v3 wr => VtRel L Sp R w v3 wr) (fun v3 _ => n - (intOf v3).toNat)
  case atStart => exact hT
  case round =>
    clear hT
    obtain ⟨i, rfl, hi, oR, kR⟩ := hrel
    by_cases hlt : i < n
    · obtain ⟨t, ht⟩ : ∃ t, L[i]? = some t := ⟨_, List.getElem?_eq_getElem (by have := Hn.out; omega)⟩
      obtain ⟨g, so, rfl, d0, d1, d2⟩ := hS _ _ oR i _ ht
      have h2 := hok.rng t (List.mem_of_getElem? ht)
      have hprev : ∀ j, i = j + 1 → ∃ u, L[j]? = some u ∧ u.f < t.f := fun j hj => by
        have hjl : j < L.length := by have := (List.getElem?_eq_some_iff.1 ht).1; omega
        refine ⟨_, List.getElem?_eq_getElem hjl, ?_⟩
        have := List.pairwise_iff_getElem.1 hok.asc j i hjl (List.getElem?_eq_some_iff.1 ht).1 (by omega)
        rw [(List.getElem?_eq_some_iff.1 ht).2] at this
        exact this
      obtain ⟨x, y, z⟩ := t
      dsimp only at d0 d1 d2 h2 hprev
      clear ht
      obtain ⟨h2, h3, h4, h5, h6, h7⟩ := h2
      have hx0 : decide (x < 0) = false := by simp; omega
      have hx1 : decide (32 ≤ x) = false := by simp; omega
      have hz0 : decide (z < 0) = false := by simp; omega
      have hz1 : decide (1099511627776 < z) = false := by simp; omega
      have hw : decide (1 ≤ y ∧ y ≤ 16) = true := by simp; omega
      have hwt := fun w => goodW_spec y w
      rw [hw] at hwt
      clear hw
      by_cases hi0 : i = 0
      · subst hi0
        clear hprev
        simp only [Nat.zero_mul, Nat.add_zero] at d0 d1 d2
        go_wp2
        go_quiet ((go_at_call 78; exact Calls.quiet_of_same (quiet_form (hwt _))))
        go_wp2
        go_roundw
        case rel => exact ⟨0 + 1, by go_num, by have := Hn.out; omega, oR.drewN _, ⟨kR.os, kR.tape, kR.output⟩⟩
        case measure => simp [intOf]; omega
      · obtain ⟨j, hj⟩ : ∃ j, i = j + 1 := ⟨i - 1, by omega⟩
        obtain ⟨u, hu, hlt2⟩ := hprev j hj
        obtain ⟨g', so', hgg, e0, _, _⟩ := hS _ _ oR j _ hu
        cases hgg
        obtain ⟨x', y', z'⟩ := u
        dsimp only at e0 hlt2
        have hle : decide (x ≤ x') = false := by simp; omega
        have hi9 : decide (0 < i) = true := by simp; omega
        have hw1 : IntKind.i64.wrap ((i : Int) - 1) = (j : Int) := by rw [IntKind.wrap_i64]; omega
        have hj0 : (0 : Int) < (i : Int) := by omega
        have hj1 : (0 : Int) ≤ (j : Int) := by omega
        have hj2 : (j : Int) < (n : Int) := by omega
        have hj3 : j < n := by omega
        clear hu hprev hj hi0
        go_wp2
        go_quiet ((go_at_call 78; exact Calls.quiet_of_same (quiet_form (hwt _))))
        go_wp2
        go_roundw
        case rel => exact ⟨i + 1, by go_num, by have := Hn.out; omega, oR.drewN _, ⟨kR.os, kR.tape, kR.output⟩⟩
        case measure => simp [intOf]; omega
    · go_wp2
      go_ret
      exact ⟨rfl, oR, kR⟩
end
end Go.Proofs.YtjpahfkchhnpoaaGreat

/- The reference of chapter 12: Least, Select, Cost, Finish. -/
namespace Go.Proofs.YtjpahfkchhnpoaaGreat
open Go.RowKit
open SP
section
variable {P : SP} {W w w' : World} {R : List SP} {b : Nat} {at_ now aw : Int} {L O : List Tg}
theorem leastN_one : ∀ {L : List Tg}, L ≠ [] → leastG L (L.drop 1) 1 0 = leastN L
  | [], h => absurd rfl h
  | t0 :: L0, _ => by
    unfold leastN
    conv => rhs; unfold leastG
    rw [if_neg (by show ¬ t0.s < t0.s; omega)]
    rfl
set_option maxHeartbeats 3200000 in
set_option maxRecDepth 100000 in
theorem leastT_spec {Sp : SP} {L : List Tg} {a : Option Addr} {n c : Nat} (hS : TagsAt Sp a L) (hok : LOk L) (hn : n = L.length) (o : Own w (Sp :: R)) :
    Calls Tryz.prog 103 #[.slice a n c] w (Ret (.int .i64 (if L = [] then -1 else (leastN L : Int))) (Sp :: R) w) := by
  have hv := validT_spec (c := c) hS hok hn o
  by_cases hz : L = []
  · rw [if_pos hz]
    have hn0 : n = 0 := by rw [hn, hz]; rfl
    subst hn0
    clear hn hz
    go_enter Tryz.func103, Tryz.ntmps103
    go_wp2_with fail
    refine hv.mono ?_
    rintro e w1 ⟨rfl, o1, k1⟩
    go_wp2
    go_ret
    exact ⟨rfl, o1, k1⟩
  · rw [if_neg hz]
    have hpos : 0 < n := by rw [hn]; exact List.length_pos_iff.2 hz
    have hl := hok.len
    have hn2 : n ≤ 32 := by omega
    have hT0 := leastN_one hz
    generalize leastN L = T at *
    have HT0 := Lib.hid hT0
    have Hn := Lib.hid hn
    have hnb : ((n : Int) == 0) = false := by rw [beq_eq_false_iff_ne]; omega
    clear hn hz hT0
    go_enter Tryz.func103, Tryz.ntmps103
    go_wp2_with fail
    refine hv.mono ?_
    rintro e w1 ⟨rfl, o1, k1⟩
    have hT : LeastRelT L T Sp R w (.int .i64 0) (.int .i64 1) w1 := ⟨1, 0, rfl, rfl, by have := Hn.out; omega, by have := Hn.out; omega, HT0.out, o1, k1⟩
    go_wp2
    go_loopw [3, 4] (fun v3 v4 wr => LeastRelT L T Sp R w v3 v4 wr) (fun _ v4 _ => n - (intOf v4).toNat)
    case atStart => exact hT
    case round =>
      clear hT hv
      obtain ⟨i, best, rfl, rfl, hi, hb, hE, oR, kR⟩ := hrel
      have HT := Lib.hid hE
      clear hE
      by_cases hlt : i < n
      · obtain ⟨t, ht⟩ : ∃ t, L[i]? = some t := ⟨_, List.getElem?_eq_getElem (by have := Hn.out; omega)⟩
        obtain ⟨u, hu⟩ : ∃ u, L[best]? = some u := ⟨_, List.getElem?_eq_getElem (by have := Hn.out; omega)⟩
        obtain ⟨g, so, rfl, d0, d1, d2⟩ := hS _ _ oR i _ ht
        obtain ⟨g', so', hgg, _, _, e2⟩ := hS _ _ oR best _ hu
        cases hgg
        have hstep : leastG L (L.drop i) i best = leastG L (L.drop (i + 1)) (i + 1) (if t.s < u.s then i else best) := by
          rw [drop_at ht, leastG, List.getD_eq_getElem?_getD, hu]; rfl
        have Hstep := Lib.hid hstep
        have hbn : best < n := by have := Hn.out; omega
        obtain ⟨x, y, z⟩ := t
        obtain ⟨x', y', z'⟩ := u
        dsimp only at d0 d1 d2 e2 Hstep
        clear ht hu hstep
        by_cases hc : z < z'
        · have hd : decide (z < z') = true := by simpa using hc
          go_wp2
          go_quiet (fail)
          go_wp2
          go_roundw
          case rel => exact ⟨i + 1, i, by go_num, rfl, by have := Hn.out; omega, by have := Hn.out; omega, by rw [← HT.out, Hstep.out, if_pos hc], oR.drewN _, ⟨kR.os, kR.tape, kR.output⟩⟩
          case measure => simp [intOf]; omega
        · have hd : decide (z < z') = false := by simpa using hc
          go_wp2
          go_quiet (fail)
          go_wp2
          go_roundw
          case rel => exact ⟨i + 1, best, by go_num, rfl, by have := Hn.out; omega, hb, by rw [← HT.out, Hstep.out, if_neg (by omega)], oR.drewN _, ⟨kR.os, kR.tape, kR.output⟩⟩
          case measure => simp [intOf]; omega
      · go_wp2
        go_ret
        have hbT : best = T := by rw [← HT.out, List.drop_eq_nil_of_le (by have := Hn.out; omega)]; rfl
        exact ⟨by rw [hbT]; rfl, oR, kR⟩
set_option maxHeartbeats 1600000 in
set_option maxRecDepth 100000 in
theorem selectT_spec (hok : LOk L) (o : Own w (RefT P b at_ L O now aw :: P :: R)) :
    Calls Tryz.prog 99 #[.pointer (some ⟨b, 0, none⟩)] w (Ret (.tuple #[.int .i64 (selT L).1, .int .i64 (selT L).2]) (RefT P b at_ L O now aw :: P :: R) w) := by
  obtain ⟨a, c, a2, c2, ⟨⟨hP, hs⟩, hc, hP2⟩, o1⟩ := RefT.iff.1 o
  have c1 := o1.cell 1
  have hle := leastT_spec (c := c) hP hok rfl (o1.up 1)
  have hl := hok.len
  by_cases hz : L = []
  · rw [if_pos hz] at hle
    have e : selT L = (0, 5) := if_pos hz
    rw [e]; clear e hz
    go_enter Tryz.func99, Tryz.ntmps99
    go_wp2_with fail
    refine hle.mono ?_
    rintro e w1 ⟨rfl, o2, k2⟩
    go_wp2
    go_ret2
    exact ⟨rfl, RefT.iff.2 ⟨a, c, a2, c2, ⟨⟨hP, hs⟩, hc, hP2⟩, o2.re [1, 0]⟩, k2⟩
  · rw [if_neg hz] at hle
    have e : selT L = ((lst L).f, 0) := if_neg hz
    rw [e]; clear e
    have hlt := leastN_lt hz
    have hg : L[leastN L]? = some (lst L) := by
      unfold lst
      rw [List.getD_eq_getElem?_getD, List.getElem?_eq_getElem hlt]; rfl
    generalize leastN L = T at *
    generalize lst L = tt at *
    obtain ⟨x, y, z⟩ := tt
    clear hz
    go_enter Tryz.func99, Tryz.ntmps99
    go_wp2_with fail
    refine hle.mono ?_
    rintro e w1 ⟨rfl, o2, k2⟩
    obtain ⟨g, so, hag, d0, d1, d2⟩ := hP _ _ o2 T _ hg
    subst hag
    dsimp only at d0 d1 d2
    have q1 := (o2.up 1).cell 1
    clear hg
    go_wp2
    go_ret2
    exact ⟨rfl, RefT.iff.2 ⟨_, c, a2, c2, ⟨⟨hP, hs⟩, hc, hP2⟩, o2.re [1, 0]⟩, k2⟩
set_option maxHeartbeats 1600000 in
theorem costT_spec (len wt : Int) (h1 : 1 ≤ len ∧ len ≤ 4096) (h2 : 1 ≤ wt ∧ wt ≤ 16) (w : World) : Calls Tryz.prog 105 #[.int .i64 len, .int .i64 wt] w (IsRet (.tuple #[.int .i64 (cst len wt), .int .i64 0]) w) := by
  have hw := goodW_spec wt w
  have hd : decide (1 ≤ wt ∧ wt ≤ 16) = true := by simp; exact h2
  rw [hd] at hw
  obtain ⟨a1, a2⟩ := h1
  obtain ⟨b1, b2⟩ := h2
  obtain ⟨c1, c2⟩ := cst_range b1 b2 a1 a2
  obtain ⟨u1, u2⟩ := unit1_range b1 b2
  have hq : IntKind.i64.wrap (Int.tdiv 720720 wt) = unit1 wt := by
    show IntKind.i64.wrap (unit1 wt) = unit1 wt
    rw [IntKind.wrap_i64]; omega
  have hm : IntKind.i64.wrap (len * unit1 wt) = cst len wt := by
    show IntKind.i64.wrap (cst len wt) = cst len wt
    rw [IntKind.wrap_i64]; omega
  have hz : wt ≠ 0 := by omega
  clear hd
  go_enter Tryz.func105, Tryz.ntmps105
  go_wp2_with fail
  refine hw.mono ?_
  rintro e1 w1 ⟨rfl, rfl⟩
  go_wp2
  go_ret2
  exact ⟨rfl, rfl⟩
set_option maxHeartbeats 1600000 in
theorem finishT_spec (s len wt : Int) (h1 : 1 ≤ len ∧ len ≤ 4096) (h2 : 1 ≤ wt ∧ wt ≤ 16) (hs : 0 ≤ s ∧ s ≤ 1099511627776) (w : World) :
    Calls Tryz.prog 102 #[.int .i64 s, .int .i64 len, .int .i64 wt] w (IsRet (.tuple #[.int .i64 (finF s len wt).1, .int .i64 (finF s len wt).2]) w) := by
  have hc := costT_spec len wt h1 h2 w
  obtain ⟨c1, c2⟩ := cst_range h2.1 h2.2 h1.1 h1.2
  have hb : ¬ (badLW len wt ∨ s < 0 ∨ 1099511627776 < s) := by unfold badLW; omega
  obtain ⟨s1, s2⟩ := hs
  unfold finF
  rw [if_neg hb]
  generalize cst len wt = z at *
  clear hb h1 h2
  have hw : IntKind.i64.wrap (s + z) = s + z := by rw [IntKind.wrap_i64]; omega
  by_cases h3 : 1099511627776 < s + z
  · rw [if_pos h3]
    go_enter Tryz.func102, Tryz.ntmps102
    go_wp2_with fail
    refine hc.mono ?_
    rintro e1 w1 ⟨rfl, rfl⟩
    go_wp2
    go_ret2
    exact ⟨rfl, rfl⟩
  · rw [if_neg h3]
    go_enter Tryz.func102, Tryz.ntmps102
    go_wp2_with fail
    refine hc.mono ?_
    rintro e1 w1 ⟨rfl, rfl⟩
    go_wp2
    go_ret2
    exact ⟨rfl, rfl⟩
end
end Go.Proofs.YtjpahfkchhnpoaaGreat

/- The reference of chapter 13: SetWeight, lower. -/
namespace Go.Proofs.YtjpahfkchhnpoaaGreat
open Go.RowKit
open SP
theorem setT_at {L : List Tg} (h : LOk L) {i : Nat} {t x : Tg} (ht : L[i]? = some t) (hx : x.f = t.f) : L.set i x = setT x L := setT_atP h.asc ht hx
section
variable {P : SP} {W w w' : World} {R : List SP} {b : Nat} {at_ now aw : Int} {L O : List Tg}
/-- A list of the state's own goes to the pool. -/
theorem refT_newL {a9 a2 : Option Addr} {n9 c9 c2 : Nat} {L2 : List Tg} (hn : n9 = L2.length) (hP2 : (TagsAt P a2 O ∧ SlOk a2 c2) ∧ O.length ≤ c2)
    (o : Own w (slc 94 3 a9 n9 c9 (flat tagC L2) :: cel b 46 [.int .i64 at_, .slice a9 n9 c9, .slice a2 O.length c2, .int .i64 now, .int .i64 aw] :: P :: R)) :
    Own w (RefT (st [slc 94 3 a9 n9 c9 (flat tagC L2), P]) b at_ L2 O now aw :: st [slc 94 3 a9 n9 c9 (flat tagC L2), P] :: R) := by
  subst hn
  have h1 := slOk_slc o
  have n1 := o.slc_len.2.1
  have oC : Own w (st [slc 94 3 a9 L2.length c9 (flat tagC L2), P] :: _) := Own.st.2 (o.re [0, 2, 1])
  exact RefT.iff.2 ⟨a9, c9, a2, c2, ⟨⟨(tagsAt_slc _ _ _ _ rfl).new, h1⟩, n1, ⟨PExtT.add _ _ _ _ hP2.1.1, hP2.1.2⟩, hP2.2⟩, oC.swap⟩
def SetWT (b : Nat) (at_ : Int) (L O : List Tg) (now aw : Int) (P : SP) (R : List SP) (w : World) (er : Int) (e : Ending) (w' : World) : Prop :=
  ∃ P', PExtT P P' ∧ Ret (.int .i64 er) (RefT P' b at_ L O now aw :: P' :: R) w e w'
set_option maxHeartbeats 3200000 in
set_option maxRecDepth 100000 in
theorem setWT_err (f wt : Int) (hL : L.length ≤ 1000) (he : fget L f = none ∨ ¬ (1 ≤ wt ∧ wt ≤ 16)) (o : Own w (RefT P b at_ L O now aw :: P :: R)) :
    Calls Tryz.prog 53 #[.pointer (some ⟨b, 0, none⟩), .int .i64 f, .int .i64 wt] w (IsRet (.int .i64 (if fget L f = none then 6 else 1)) w) := by
  have hat := index_spec f hL o
  have hgw := goodW_spec wt w
  cases hf : fget L f with
  | none =>
    rw [idxT_none 0 L hf] at hat
    rw [if_pos rfl]
    clear he hf
    go_enter Tryz.func53, Tryz.ntmps53
    go_wp2_with fail
    refine hat.mono ?_
    rintro e1 w1 ⟨rfl, rfl⟩
    go_wp2
    go_ret
    exact ⟨rfl, rfl⟩
  | some t =>
    obtain ⟨i, hi, hai⟩ := idxT_some 0 L hf
    rw [hai, Nat.zero_add] at hat
    rw [if_neg (by simp)]
    have hd : decide (1 ≤ wt ∧ wt ≤ 16) = false := by
      rcases he with he | he
      · rw [hf] at he; cases he
      · simp only [decide_eq_false_iff_not]; exact he
    rw [hd] at hgw
    clear he hd hf hai hi
    go_enter Tryz.func53, Tryz.ntmps53
    go_wp2_with fail
    refine hat.mono ?_
    rintro e1 w1 ⟨rfl, rfl⟩
    go_wp2_with fail
    refine hgw.mono ?_
    rintro e2 w2 ⟨rfl, rfl⟩
    go_wp2
    go_ret
    exact ⟨rfl, rfl⟩
set_option maxHeartbeats 3200000 in
set_option maxRecDepth 100000 in
theorem setWT_ok (f wt : Int) {t : Tg} (hok : LOk L) (hw : 1 ≤ wt ∧ wt ≤ 16) (hf : fget L f = some t) (o : Own w (RefT P b at_ L O now aw :: P :: R)) :
    Calls Tryz.prog 53 #[.pointer (some ⟨b, 0, none⟩), .int .i64 f, .int .i64 wt] w (SetWT b at_ (setT ⟨t.f, wt, t.s⟩ L) O now aw P R w 0) := by
  have hL := hok.len
  have hat := index_spec f (by omega) o
  have hgw := goodW_spec wt w
  have hd : decide (1 ≤ wt ∧ wt ≤ 16) = true := by simp; exact hw
  rw [hd] at hgw
  obtain ⟨i, hi, hai⟩ := idxT_some 0 L hf
  rw [hai, Nat.zero_add] at hat
  have hil := (List.getElem?_eq_some_iff.1 hi).1
  have hset := setT_at (x := ⟨t.f, wt, t.s⟩) hok hi rfl
  have hfs := flat_set tagC_len L i 1 t ⟨t.f, wt, t.s⟩ (.int .i64 wt) hi (by omega) rfl
  have HS := Lib.hid hset
  have HF := Lib.hid hfs
  obtain ⟨a, c, a2, c2, ⟨⟨hP, hs⟩, hc, hP2⟩, o1⟩ := RefT.iff.1 o
  have c1 := o1.cell 1
  have cl := o1.celLt
  have cf := o1.frozen
  have oZ := slc_zero (e := 94) (size := 3) ((o1.alloc (.cells #[] 94)))
  have hsrc := tags_src (c := c) hP rfl (oZ.up 2)
  have hfg := flat_get tagC_len L i 1 t hi (by omega)
  have HFG := Lib.hid hfg
  clear hd hw hf hai hi hset hfs hfg
  go_enter Tryz.func53, Tryz.ntmps53
  go_wp2_with fail
  refine hat.mono ?_
  rintro e1 w1 ⟨rfl, rfl⟩
  go_wp2_with fail
  refine hgw.mono ?_
  rintro e2 w2 ⟨rfl, rfl⟩
  go_wp2_with (at_builtin; refine wpList_append_src rfl _ _ rfl Tryz.tagT rfl oZ rfl hsrc (by unfold maxLen; omega) (by omega) ?k1)
  case k1 =>
  intro a5 c5 w5 o5 k5
  have o5z := o5
  have q1 := (o5z.up 1).cell 1
  have ql := (o5z.up 1).celLt
  have qf := (o5z.up 1).frozen
  have oS := ((o5z.up 1).setCell 1 (.slice a5 L.length c5))
  have s1 := oS.cell 1
  rcases Own.slc.1 (oS.up 1) with ⟨_, hz, _⟩ | ⟨g, sp, rfl, _, hcm, _, _, _⟩
  · omega
  · obtain ⟨g', hg', hc', hf', hl'⟩ := (oS.up 1).slc_cell (by omega)
    cases hg'
    have d1 := hc' (i * 3 + 1) _ HFG.out
    have df := hf'
    have o7 := (oS.up 1).slc_set (i * 3 + 1) (.int .i64 wt) (by rw [flat_length tagC_len]; omega)
    rw [← HF.out, HS.out] at o7
    have hlen : L.length = (setT ⟨t.f, wt, t.s⟩ L).length := by rw [← HS.out, List.length_set]
    have oE := refT_newL (L2 := setT ⟨t.f, wt, t.s⟩ L) hlen hP2 o7
    clear hlen
    go_wp2
    go_ret
    exact ⟨_, PExtT.add _ _, rfl, oE, Calm.trans ⟨k5.os, k5.tape, k5.output⟩ ⟨rfl, rfl, rfl⟩⟩
end
end Go.Proofs.YtjpahfkchhnpoaaGreat

/- The reference of chapter 13: Leave. -/
namespace Go.Proofs.YtjpahfkchhnpoaaGreat
open Go.RowKit
open SP
section
variable {P : SP} {W w w' : World} {R : List SP} {b : Nat} {at_ now aw : Int} {L O : List Tg}
def LvMid (b : Nat) (at_ : Int) (L O2 : List Tg) (a : Option Addr) (c : Nat) (now aw : Int) (P : SP) (R : List SP) (w wc : World) : Prop :=
  ∃ P' a2 c2, PExtT P P' ∧ (TagsAt P' a2 O2 ∧ SlOk a2 c2) ∧ O2.length ≤ c2 ∧ Own wc (cel b 46 [.int .i64 at_, .slice a L.length c, .slice a2 O2.length c2, .int .i64 now, .int .i64 aw] :: P' :: R) ∧ Calm w wc
theorem lv_mid {w6 : World} {a6 a0 a : Option Addr} {n n0 c c0 c6 : Nat} {O2 : List Tg} {xs : List Value} (hn : n = O2.length) (hx : xs = flat tagC O2)
    (o : Own w6 (slc 94 3 a6 n c6 xs :: cel b 46 [.int .i64 at_, .slice a L.length c, .slice a0 n0 c0, .int .i64 now, .int .i64 aw] :: P :: R)) (k : Calm w w6) :
    LvMid b at_ L O2 a c now aw P R w (w6.setCell ⟨b, 2, none⟩ (.slice a6 n c6)) := by
  subst hn
  subst hx
  have h1 := slOk_slc o
  have n1 := o.slc_len.2.1
  have oA := (o.swap.setCell 2 (.slice a6 O2.length c6)).re [1, 2, 0]
  have oB : Own (w6.setCell ⟨b, 2, none⟩ (.slice a6 O2.length c6)) (st [slc 94 3 a6 O2.length c6 (flat tagC O2), P] :: _) := Own.st.2 oA
  exact ⟨_, a6, c6, PExtT.add _ _, ⟨(tagsAt_slc _ _ _ _ rfl).new, h1⟩, n1, oB.swap, ⟨k.os, k.tape, k.output⟩⟩
set_option maxHeartbeats 3200000 in
set_option maxRecDepth 100000 in
theorem leaveT_none (f : Int) (hL : L.length ≤ 1000) (hf : fget L f = none) (o : Own w (RefT P b at_ L O now aw :: P :: R)) :
    Calls Tryz.prog 47 #[.pointer (some ⟨b, 0, none⟩), .int .i64 f] w (IsRet (.int .i64 6) w) := by
  have hat := index_spec f hL o
  rw [idxT_none 0 L hf] at hat
  clear hf
  go_enter Tryz.func47, Tryz.ntmps47
  go_wp2_with fail
  refine hat.mono ?_
  rintro e1 w1 ⟨rfl, rfl⟩
  go_wp2
  go_ret
  exact ⟨rfl, rfl⟩
def LvMid2 (b : Nat) (at_ : Int) (L2 O : List Tg) (now aw : Int) (P : SP) (R : List SP) (w wc : World) : Prop :=
  ∃ P', PExtT P P' ∧ Own wc (RefT P' b at_ L2 O now aw :: P' :: R) ∧ Calm w wc
theorem lv_mid2 {P0 : SP} {w6 : World} {a6 a0 a2 : Option Addr} {n n0 c0 c2 c6 : Nat} {L2 : List Tg} {xs : List Value} (hE : PExtT P0 P) (hn : n = L2.length) (hx : xs = flat tagC L2) (hP2 : (TagsAt P a2 O ∧ SlOk a2 c2) ∧ O.length ≤ c2)
    (o : Own w6 (slc 94 3 a6 n c6 xs :: cel b 46 [.int .i64 at_, .slice a0 n0 c0, .slice a2 O.length c2, .int .i64 now, .int .i64 aw] :: P :: R)) (k : Calm w w6) :
    LvMid2 b at_ L2 O now aw P0 R w (w6.setCell ⟨b, 1, none⟩ (.slice a6 n c6)) := by
  subst hx
  have oA := (o.swap.setCell 1 (.slice a6 n c6)).re [1, 0]
  exact ⟨_, hE.trans (PExtT.add _ _), refT_newL hn hP2 oA, ⟨k.os, k.tape, k.output⟩⟩
theorem delT_at {L : List Tg} (h : LOk L) {i : Nat} {t : Tg} (ht : L[i]? = some t) : L.take i ++ L.drop (i + 1) = delT t.f L := delT_atP h.asc ht
def lvO (f : Int) (L O : List Tg) (t : Tg) : List Tg := if delT f L = [] then [] else O ++ [t]
def lvN (f : Int) (L : List Tg) (now : Int) : Int := if delT f L = [] then 0 else now
def LeaveT (b : Nat) (at_ : Int) (L O : List Tg) (now aw : Int) (P : SP) (R : List SP) (w : World) (e : Ending) (w' : World) : Prop :=
  ∃ P', PExtT P P' ∧ Ret (.int .i64 0) (RefT P' b at_ L O now aw :: P' :: R) w e w'
set_option maxHeartbeats 6400000 in
set_option maxRecDepth 100000 in
theorem leaveT_ok (f : Int) {t : Tg} (hok : LOk L) (hO : O.length ≤ 1000) (hf : fget L f = some t) (o : Own w (RefT P b at_ L O now aw :: P :: R)) :
    Calls Tryz.prog 47 #[.pointer (some ⟨b, 0, none⟩), .int .i64 f] w (LeaveT b at_ (delT f L) (lvO f L O t) (lvN f L now) aw P R w) := by
  have hL := hok.len
  have hat := index_spec f (by omega) o
  obtain ⟨i, hi, hai⟩ := idxT_some 0 L hf
  rw [hai, Nat.zero_add] at hat
  have hil := (List.getElem?_eq_some_iff.1 hi).1
  have hdel := delT_at hok hi
  rw [(fget_some hf).2] at hdel
  have HDEL := Lib.hid hdel
  clear hdel
  obtain ⟨a, c, a2, c2, ⟨⟨hP, hs⟩, hc, ⟨hP2, hs2⟩, hc2⟩, o1⟩ := RefT.iff.1 o
  obtain ⟨g, so, hag, d0, d1, d2⟩ := hP _ _ (o1.up 1) i t hi
  obtain ⟨g0, hg0⟩ : ∃ g0, a = some ⟨g0, 0, none⟩ := by
    rcases hs with ⟨h, _⟩ | h
    · rw [hag] at h; cases h
    · exact h
  rw [hg0] at hag
  cases hag
  subst hg0
  rw [Nat.zero_add] at d0 d1 d2
  obtain ⟨t0, t1, t2⟩ := t
  dsimp only at d0 d1 d2
  have c1 := o1.cell 1
  have e2 := o1.cell 2
  have cl := o1.celLt
  have cf := o1.frozen
  have hg2 : g < w.heap.size := World.block_lt_of_cell? w _ d0
  -- the three orders
  have y1 := o1.alloc (.cells #[] 94)
  have z1 := (slc_zero (e := 94) (size := 3) y1).drew
  have s1 := tags_src (c := c2) hP2 rfl (z1.up 2)
  have h2 : (w.alloc (.cells #[] 94)).heap.size = w.heap.size + 1 := by simp
  have h3 : (w.alloc (.cells #[.int .i64 t0, .int .i64 t1, .int .i64 t2] 94)).heap.size = w.heap.size + 1 := by simp
  have x1 := y1.alloc (.cells #[.int .i64 t0, .int .i64 t1, .int .i64 t2] 94)
  rw [h2] at x1
  have z2 := (slc_zero (e := 94) (size := 3) (x1.up 1)).drew
  have s2 := tags_src (c := c2) hP2 rfl (z2.up 3)
  have y3 := o1.alloc (.cells #[.int .i64 t0, .int .i64 t1, .int .i64 t2] 94)
  have y4 := y3.alloc (.cells #[] 94)
  rw [h3] at y4
  have z3 := (slc_zero (e := 94) (size := 3) y4).drew
  have s3 := tags_src (c := c2) hP2 rfl (z3.up 3)
  clear h2 h3 x1 y1 y3 y4
  have M1 : Hid (0 + O.length ≤ maxLen) := Lib.hid (by unfold maxLen; omega)
  have M2 : Hid ((0 + O.length) * 24 ≤ 140737488355328) := Lib.hid (by omega)
  have M3 : Hid (O.length + 1 ≤ maxLen) := Lib.hid (by unfold maxLen; omega)
  have M4 : Hid ((O.length + 1) * 24 ≤ 140737488355328) := Lib.hid (by omega)
  have M5 : Hid (0 + O.length + 1 ≤ maxLen) := Lib.hid (by unfold maxLen; omega)
  have M6 : Hid ((0 + O.length + 1) * 24 ≤ 140737488355328) := Lib.hid (by omega)
  have HI := Lib.hid hi
  clear hai hf hi
  go_enter Tryz.func47, Tryz.ntmps47
  go_wp2_with fail
  refine hat.mono ?_
  rintro e1 w1 ⟨rfl, rfl⟩
  go_upto_region 4 with fail
  go_cut [26] (fun _ wc => LvMid b at_ L (O ++ [⟨t0, t1, t2⟩]) (some ⟨g, 0, none⟩) c now aw P R w wc)
  case first =>
    go_region_law (first
      | (refine step_append_src rfl _ _ rfl Tryz.tagT rfl oN rfl sN M3.out M4.out ?_; intro a6 c6 w6 o6 k6; have q1 := (o6.up 2).cell 1; have q2 := (o6.up 2).cell 2; have qf := (o6.up 2).frozen; have ql := (o6.up 2).celLt; obtain ⟨_, _, hh, p0, p1, p2⟩ := hP _ _ (o6.up 3) i _ HI.out; cases hh; rw [Nat.zero_add] at p0 p1 p2; have oS := ((o6.up 2).setCell 2 (.slice a6 (O.length + 1) c6)); have s9 := oS.cell 1; obtain ⟨_, _, hh, r0, r1, r2⟩ := hP _ _ (oS.up 3) i _ HI.out; cases hh; rw [Nat.zero_add] at r0 r1 r2)
      | (refine step_append_src rfl _ _ rfl Tryz.tagT rfl oQ rfl sN M3.out M4.out ?_; intro a6 c6 w6 o6 k6; have q1 := (o6.up 2).cell 1; have q2 := (o6.up 2).cell 2; have qf := (o6.up 2).frozen; have ql := (o6.up 2).celLt; obtain ⟨_, _, hh, p0, p1, p2⟩ := hP _ _ (o6.up 3) i _ HI.out; cases hh; rw [Nat.zero_add] at p0 p1 p2; have oS := ((o6.up 2).setCell 2 (.slice a6 (O.length + 1) c6)); have s9 := oS.cell 1; obtain ⟨_, _, hh, r0, r1, r2⟩ := hP _ _ (oS.up 3) i _ HI.out; cases hh; rw [Nat.zero_add] at r0 r1 r2)
      | (refine step_append_src rfl _ _ rfl Tryz.tagT rfl oP rfl sN M5.out M6.out ?_; intro a6 c6 w6 o6 k6; simp only [Nat.zero_add, List.nil_append] at o6; have q1 := (o6.up 2).cell 1; have q2 := (o6.up 2).cell 2; have qf := (o6.up 2).frozen; have ql := (o6.up 2).celLt; obtain ⟨_, _, hh, p0, p1, p2⟩ := hP _ _ (o6.up 3) i _ HI.out; cases hh; rw [Nat.zero_add] at p0 p1 p2; have oS := ((o6.up 2).setCell 2 (.slice a6 (O.length + 1) c6)); have s9 := oS.cell 1; obtain ⟨_, _, hh, r0, r1, r2⟩ := hP _ _ (oS.up 3) i _ HI.out; cases hh; rw [Nat.zero_add] at r0 r1 r2)
      | ((with_reducible refine at_world ((w.alloc (.cells #[] 94)).drew) ?_); refine step_append_src rfl _ _ rfl Tryz.tagT rfl z1 rfl s1 M1.out M2.out ?_; intro a5 c5 w5 o5 k5; replace o5 := slc_plus o5; have oN := (o5.alloc (.cells #[.int .i64 t0, .int .i64 t1, .int .i64 t2] 94)).re [1, 0, 2, 3]; have sN := news_src (oN.up 1); have q1 := (o5.up 1).cell 1; have q2 := (o5.up 1).cell 2; have qf := (o5.up 1).frozen; have ql := (o5.up 1).celLt; obtain ⟨_, _, hh, p0, p1, p2⟩ := hP _ _ (o5.up 2) i _ HI.out; cases hh; rw [Nat.zero_add] at p0 p1 p2)
      | ((with_reducible refine at_world (((w.alloc (.cells #[] 94)).alloc (.cells #[.int .i64 t0, .int .i64 t1, .int .i64 t2] 94)).drew) ?_); refine step_append_src rfl _ _ rfl Tryz.tagT rfl z2 rfl s2 M1.out M2.out ?_; intro a5 c5 w5 oP k5; have oQ := slc_plus oP; have sN := news_src (oQ.up 1); have q1 := (oQ.up 2).cell 1; have q2 := (oQ.up 2).cell 2; have qf := (oQ.up 2).frozen; have ql := (oQ.up 2).celLt; obtain ⟨_, _, hh, p0, p1, p2⟩ := hP _ _ (oQ.up 3) i _ HI.out; cases hh; rw [Nat.zero_add] at p0 p1 p2)
      | ((with_reducible refine at_world (((w.alloc (.cells #[.int .i64 t0, .int .i64 t1, .int .i64 t2] 94)).alloc (.cells #[] 94)).drew) ?_); refine step_append_src rfl _ _ rfl Tryz.tagT rfl z3 rfl s3 M1.out M2.out ?_; intro a5 c5 w5 oP k5; have oQ := slc_plus oP; have sN := news_src (oQ.up 1); have q1 := (oQ.up 2).cell 1; have q2 := (oQ.up 2).cell 2; have qf := (oQ.up 2).frozen; have ql := (oQ.up 2).celLt; obtain ⟨_, _, hh, p0, p1, p2⟩ := hP _ _ (oQ.up 3) i _ HI.out; cases hh; rw [Nat.zero_add] at p0 p1 p2))
    all_goals go_wp2
    all_goals go_meet
    all_goals exact lv_mid (by simp) (by rw [flat_append]; rfl) (o6.re [1, 0, 2, 3] 1) (Calm.trans ⟨k5.os, k5.tape, k5.output⟩ (by first | exact k6 | exact k6.al))
  case rest =>
    obtain ⟨P', a8, c8, hE, hPO, hOc, o7, k7⟩ := hcut
    clear z1 z2 z3 s1 s2 s3 o1 c1 e2 cl cf d0 d1 d2 M1 M2 M3 M4 M5 M6
    have hP7 := hE _ _ hP
    have oZ := slc_zero (e := 94) (size := 3) ((o7.drew.alloc (.cells #[] 94)))
    have s1 := tags_cut (i := 0) (k := i) (c := c) hP7 (by omega) (oZ.up 2)
    rw [Nat.zero_mul, Nat.add_zero, List.drop_zero] at s1
    have hp2 : ∀ (w : World) (R : List SP) (a : Option Addr) (c' : Nat), (a = some ⟨g, (i + 1) * 3, none⟩ ∨ L.length - (i + 1) = 0) → Own w (P' :: R) → IsSrc w (.slice a (L.length - (i + 1)) c') 3 (L.length - (i + 1)) (flat tagC (L.drop (i + 1))) := fun w R a c' ha o => by
      have e : ((L.drop (i + 1)).take (L.length - (i + 1))) = L.drop (i + 1) := List.take_of_length_le (by rw [List.length_drop]; omega)
      rcases ha with rfl | ha
      · have := tags_cut (i := i + 1) (k := L.length - (i + 1)) (c := c') hP7 (by omega) o
        rw [e, Nat.zero_add] at this
        exact this
      · rw [ha]
        have : L.drop (i + 1) = [] := List.drop_eq_nil_of_le (by omega)
        rw [this]
        exact ⟨a, c', rfl, by simp [flat], by simp [flat], .inl rfl⟩
    have HP2 := Lib.hid hp2
    have hcl : (L.take i ++ L.drop (i + 1)).length = i + (L.length - (i + 1)) := by rw [List.length_append, List.length_take, List.length_drop]; omega
    have HC2 := Lib.hid hcl
    have c1 := o7.cell 1
    have hfz := o7.frozen
    have hlt := o7.celLt
    clear hp2 hcl
    have b1 : (0 : Int) ≤ (i : Int) := by omega
    have b2 : (i : Int) ≤ (c : Int) := by omega
    have b2' : i ≤ c := by omega
    have b7 : (i : Int) + 1 ≤ (L.length : Int) := by omega
    have b8 : (i : Int) + 1 ≤ (c : Int) := by omega
    have b9 : i + 1 ≤ L.length := by omega
    have b4 : 0 ≤ (i : Int) + 1 := by omega
    have N1 : Hid (0 + i ≤ maxLen) := Lib.hid (by unfold maxLen; omega)
    have N2 : Hid ((0 + i) * 24 ≤ 140737488355328) := Lib.hid (by omega)
    have N3 : Hid (i + (L.length - (i + 1)) ≤ maxLen) := Lib.hid (by unfold maxLen; omega)
    have N4 : Hid ((i + (L.length - (i + 1))) * 24 ≤ 140737488355328) := Lib.hid (by omega)
    have b5 : IntKind.i64.wrap ((i : Int) + 1) = (i : Int) + 1 := by rw [IntKind.wrap_i64]; omega
    have b6 : ((i : Int) + 1).toNat = i + 1 := by omega
    by_cases hic : i + 1 = c
    · subst hic
      have z1 : (i : Int) ≤ (i : Int) + 1 := by omega
      have z2 : (L.length : Int) ≤ (i : Int) + 1 := by omega
      have z3 : L.length ≤ i + 1 := by omega
      have HDZ : Hid (L.drop (i + 1) = []) := Lib.hid (List.drop_eq_nil_of_le z3)
      have src0 : ∀ (w : World) (a : Option Addr) (c' : Nat), IsSrc w (.slice a 0 c') 3 0 [] := fun w a c' => ⟨a, c', rfl, by simp, by simp, .inl rfl⟩
      have SRC := Lib.hid src0
      have N5 : Hid (i + 0 ≤ maxLen) := Lib.hid (by unfold maxLen; omega)
      have N6 : Hid ((i + 0) * 24 ≤ 140737488355328) := Lib.hid (by omega)
      have hti : Hid ((L.take i ++ ([] : List Tg)).length = i) := Lib.hid (by rw [List.append_nil, List.length_take]; omega)
      clear src0
      go_upto_region 5 with fail
      go_cut [37] (fun _ wc => LvMid2 b at_ (delT f L) (O ++ [⟨t0, t1, t2⟩]) now aw P R w wc)
      case first =>
        go_region_law (first
          | (refine step_append_src rfl _ _ rfl Tryz.tagT rfl oZ rfl s1 N1.out N2.out ?_; intro a5 c5 w5 o5 k5; have o5z := slc_plus o5; have q5 := (o5.up 1).cell 1)
          | (refine step_append_src rfl _ _ rfl Tryz.tagT rfl o5z rfl (SRC.out _ _ _) N5.out N6.out ?_; intro a6 c6 w6 o6 k6; have q6 := (o6.up 1).cell 1; have qf6 := (o6.up 1).frozen; have ql6 := (o6.up 1).celLt))
        all_goals go_wp2
        all_goals go_meet
        all_goals (have k10 := Calm.trans k5 k6; rw [← HDEL.out, HDZ.out]; exact lv_mid2 hE hti.out.symm (by simp) ⟨hPO, hOc⟩ o6 (k7.trans ⟨k10.os, k10.tape, k10.output⟩))
      case rest =>
        obtain ⟨P2, hE2, o9, k9⟩ := hcut
        clear s1 oZ o7 c1 hfz hlt
        obtain ⟨a9, c9, a10, c10, ⟨⟨hp9, hs9⟩, hc9, hO9⟩, o10⟩ := RefT.iff.1 o9
        have q1 := o10.cell 1
        have qf := o10.frozen
        have ql := o10.celLt
        have q2 := o10.cell 2
        have q3 := o10.cell 3
        by_cases hz : delT f L = []
        · have e1 : lvO f L O ⟨t0, t1, t2⟩ = [] := if_pos hz
          have e2 : lvN f L now = 0 := if_pos hz
          rw [hz] at q1 o10 hp9
          have E1 := Lib.hid e1
          have E2 := Lib.hid e2
          have HZ := Lib.hid hz
          clear e1 e2
          simp only [List.length_nil] at q1
          have oF : Own ((wc.setCell ⟨b, 2, none⟩ (.slice none 0 0)).setCell ⟨b, 3, none⟩ (.int .i64 0)) (RefT P2 b at_ [] [] 0 aw :: P2 :: R) := RefT.iff.2 ⟨a9, c9, none, 0, ⟨⟨tagsAt_nil _ _, hs9⟩, Nat.zero_le _, ⟨tagsAt_nil _ _, .inl ⟨rfl, rfl⟩⟩, Nat.le_refl _⟩, (o10.setCell 2 (.slice none 0 0)).setCell 3 (.int .i64 0)⟩
          clear hz
          go_wp2
          go_ret
          rw [E1.out, E2.out, HZ.out]
          exact ⟨P2, hE2, rfl, oF, ⟨k9.os, k9.tape, k9.output⟩⟩
        · have e1 : lvO f L O ⟨t0, t1, t2⟩ = O ++ [⟨t0, t1, t2⟩] := if_neg hz
          have e2 : lvN f L now = now := if_neg hz
          have E1 := Lib.hid e1
          have E2 := Lib.hid e2
          have hzl : (((delT f L).length : Int) == 0) = false := by
            rw [beq_eq_false_iff_ne]
            intro h
            exact hz (List.eq_nil_of_length_eq_zero (by omega))
          clear e1 e2 hz
          go_wp2
          go_ret
          rw [E1.out, E2.out]
          exact ⟨P2, hE2, rfl, o9, k9⟩
    · have hic2 : ((i : Int) + 1 == (c : Int)) = false := by rw [beq_eq_false_iff_ne]; omega
      have hic3 : ¬ c = i + 1 := by omega
      go_upto_region 5 with fail
      go_cut [37] (fun _ wc => LvMid2 b at_ (delT f L) (O ++ [⟨t0, t1, t2⟩]) now aw P R w wc)
      case first =>
        go_region_law (first
          | (refine step_append_src rfl _ _ rfl Tryz.tagT rfl oZ rfl s1 N1.out N2.out ?_; intro a5 c5 w5 o5 k5; have o5z := slc_plus o5; have q5 := (o5.up 1).cell 1)
          | (refine step_append_src rfl _ _ rfl Tryz.tagT rfl o5z rfl (HP2.out _ _ _ _ (.inl rfl) (o5z.up 2)) N3.out N4.out ?_; intro a6 c6 w6 o6 k6; have q6 := (o6.up 1).cell 1; have qf6 := (o6.up 1).frozen; have ql6 := (o6.up 1).celLt))
        all_goals go_wp2
        all_goals go_meet
        all_goals (have k10 := Calm.trans k5 k6; rw [← HDEL.out]; exact lv_mid2 hE HC2.out.symm (flat_append _ _ _).symm ⟨hPO, hOc⟩ o6 (k7.trans ⟨k10.os, k10.tape, k10.output⟩))
      case rest =>
        obtain ⟨P2, hE2, o9, k9⟩ := hcut
        clear s1 oZ o7 c1 hfz hlt
        obtain ⟨a9, c9, a10, c10, ⟨⟨hp9, hs9⟩, hc9, hO9⟩, o10⟩ := RefT.iff.1 o9
        have q1 := o10.cell 1
        have qf := o10.frozen
        have ql := o10.celLt
        have q2 := o10.cell 2
        have q3 := o10.cell 3
        by_cases hz : delT f L = []
        · have e1 : lvO f L O ⟨t0, t1, t2⟩ = [] := if_pos hz
          have e2 : lvN f L now = 0 := if_pos hz
          rw [hz] at q1 o10 hp9
          have E1 := Lib.hid e1
          have E2 := Lib.hid e2
          have HZ := Lib.hid hz
          clear e1 e2
          simp only [List.length_nil] at q1
          have oF : Own ((wc.setCell ⟨b, 2, none⟩ (.slice none 0 0)).setCell ⟨b, 3, none⟩ (.int .i64 0)) (RefT P2 b at_ [] [] 0 aw :: P2 :: R) := RefT.iff.2 ⟨a9, c9, none, 0, ⟨⟨tagsAt_nil _ _, hs9⟩, Nat.zero_le _, ⟨tagsAt_nil _ _, .inl ⟨rfl, rfl⟩⟩, Nat.le_refl _⟩, (o10.setCell 2 (.slice none 0 0)).setCell 3 (.int .i64 0)⟩
          clear hz
          go_wp2
          go_ret
          rw [E1.out, E2.out, HZ.out]
          exact ⟨P2, hE2, rfl, oF, ⟨k9.os, k9.tape, k9.output⟩⟩
        · have e1 : lvO f L O ⟨t0, t1, t2⟩ = O ++ [⟨t0, t1, t2⟩] := if_neg hz
          have e2 : lvN f L now = now := if_neg hz
          have E1 := Lib.hid e1
          have E2 := Lib.hid e2
          have hzl : (((delT f L).length : Int) == 0) = false := by
            rw [beq_eq_false_iff_ne]
            intro h
            exact hz (List.eq_nil_of_length_eq_zero (by omega))
          clear e1 e2 hz
          go_wp2
          go_ret
          rw [E1.out, E2.out]
          exact ⟨P2, hE2, rfl, o9, k9⟩
end
end Go.Proofs.YtjpahfkchhnpoaaGreat

/- The reference of chapter 13: lower, Copy; the program's SetWeight, Rebased, Copy. -/
namespace Go.Proofs.YtjpahfkchhnpoaaGreat
open Go.RowKit
open SP
section
variable {P : SP} {W w w' : World} {R : List SP} {b : Nat} {at_ now aw : Int} {L O : List Tg}
def LwRel (Sp : SP) (L : List Tg) (by_ : Int) (R : List SP) (w : World) (v5 v6 : Value) (wr : World) : Prop :=
  ∃ (i : Nat) (a : Option Addr) (c : Nat), v5 = .slice a i c ∧ v6 = .int .i64 (i : Int) ∧ i ≤ L.length ∧
    Own wr (slc 94 3 a i c (flat tagC ((L.take i).map (lowO by_))) :: Sp :: R) ∧ Calm w wr
theorem take_snoc' {α : Type} {L : List α} {i : Nat} {x : α} (h : L[i]? = some x) : L.take (i + 1) = L.take i ++ [x] := by rw [List.take_add_one, h]; rfl
set_option maxHeartbeats 3200000 in
set_option maxRecDepth 100000 in
theorem lower_spec {Sp : SP} {a : Option Addr} {n c : Nat} (by_ : Int) (hb : 0 ≤ by_ ∧ by_ ≤ 1099511627776) (hS : TagsAt Sp a L) (hn : n = L.length) (hn2 : n ≤ 1000) (hr : ∀ t ∈ L, 0 ≤ t.s ∧ t.s ≤ 1099511627776) (o : Own w (Sp :: R)) :
    Calls Tryz.prog 104 #[.slice a n c, .int .i64 by_] w fun e w' => ∃ a' c', Ret (.slice a' n c') (slc 94 3 a' n c' (flat tagC (L.map (lowO by_))) :: Sp :: R) w e w' := by
  have hT : LwRel Sp L by_ R w (.slice none 0 0) (.int .i64 0) w := ⟨0, none, 0, rfl, rfl, by omega, o.slc_nil, Calm.refl w⟩
  have Hn := Lib.hid hn
  clear hn
  obtain ⟨hb0, hb1⟩ := hb
  go_enter Tryz.func104, Tryz.ntmps104
  go_wp2
  go_loopw [5, 6] (fun v5 v6 wr => LwRel Sp L by_ R w v5 v6 wr) (fun _ v6 _ => n - (intOf v6).toNat)
  case atStart => exact hT
  case round =>
    clear hT
    obtain ⟨i, a9, c9, rfl, rfl, hi, oR, kR⟩ := hrel
    by_cases hlt : i < n
    · obtain ⟨t, ht⟩ : ∃ t, L[i]? = some t := ⟨_, List.getElem?_eq_getElem (by have := Hn.out; omega)⟩
      obtain ⟨g, so, rfl, d0, d1, d2⟩ := hS _ _ (oR.up 1) i _ ht
      have hrt := hr t (List.mem_of_getElem? ht)
      obtain ⟨x, y, z⟩ := t
      dsimp only at d0 d1 d2 hrt
      have HTS := Lib.hid (take_snoc' ht)
      have HT := Lib.hid ht
      clear ht
      have hw1 : IntKind.i64.wrap (z - by_) = z - by_ := by rw [IntKind.wrap_i64]; omega
      obtain ⟨m, hm⟩ : ∃ m, max (z - by_) 0 = m := ⟨_, rfl⟩
      have HM := Lib.hid hm
      have oN := ((oR.alloc (.cells #[.int .i64 x, .int .i64 y, .int .i64 m] 94)).re [1, 0, 2]).drew
      have sN := news_src (oN.up 1)
      have M1 : Hid (i + 1 ≤ maxLen) := Lib.hid (by unfold maxLen; omega)
      have M2 : Hid ((i + 1) * 24 ≤ 140737488355328) := Lib.hid (by omega)
      have hm2 : (if z - by_ < 0 then 0 else z - by_) = m := by rw [← hm]; split <;> omega
      go_wp2
      go_region_held3 (fun w' => w'.cell? ⟨g, so + i * 3, none⟩ = some (.int .i64 x) ∧ w'.cell? ⟨g, so + i * 3 + 1, none⟩ = some (.int .i64 y) ∧ w'.cell? ⟨g, so + i * 3 + 2, none⟩ = some (.int .i64 z)) (go_keep) (first
        | (refine step_append_src rfl _ _ rfl Tryz.tagT rfl oN rfl sN M1.out M2.out ?_; intro a6 c6 w6 o6 k6; obtain ⟨_, _, hh, p0, p1, p2⟩ := hS _ _ (o6.up 2) i _ HT.out; cases hh))
      have hfl : flat tagC ((L.take (i + 1)).map (lowO by_)) = flat tagC ((L.take i).map (lowO by_)) ++ [.int .i64 x, .int .i64 y, .int .i64 m] := by
        rw [HTS.out, List.map_append, flat_append, ← HM.out]; rfl
      have HFL := Lib.hid hfl
      clear hfl
      go_wp2
      go_roundw
      case rel => exact ⟨i + 1, a6, c6, rfl, by go_num, by have := Hn.out; omega, by rw [HFL.out]; exact o6.re [1, 0, 2] 1, kR.trans ⟨k6.os, k6.tape, k6.output⟩⟩
      case measure => simp [intOf]; omega
    · go_wp2
      go_ret
      have hin : i = n := by have := Hn.out; omega
      have e : L.take i = L := List.take_of_length_le (by have := Hn.out; omega)
      rw [e] at oR
      subst hin
      exact ⟨a9, c9, rfl, oR, kR⟩
end
end Go.Proofs.YtjpahfkchhnpoaaGreat

/- The reference of chapter 13: Charge where it gives an error. -/
namespace Go.Proofs.YtjpahfkchhnpoaaGreat
open Go.RowKit
open SP
section
variable {P : SP} {W w w' : World} {R : List SP} {b : Nat} {at_ now aw : Int} {L O : List Tg}
set_option maxHeartbeats 3200000 in
set_option maxRecDepth 100000 in
theorem chargeT_none (f len : Int) (hL : L.length ≤ 1000) (hf : fget L f = none) (o : Own w (RefT P b at_ L O now aw :: P :: R)) :
    Calls Tryz.prog 73 #[.pointer (some ⟨b, 0, none⟩), .int .i64 f, .int .i64 len] w (IsRet (.int .i64 6) w) := by
  have hat := index_spec f hL o
  rw [idxT_none 0 L hf] at hat
  clear hf
  go_enter Tryz.func73, Tryz.ntmps73
  go_wp2_with fail
  refine hat.mono ?_
  rintro e1 w1 ⟨rfl, rfl⟩
  go_wp2
  go_ret
  exact ⟨rfl, rfl⟩
set_option maxHeartbeats 3200000 in
set_option maxRecDepth 100000 in
theorem chargeT_len (f len : Int) {t : Tg} (hL : L.length ≤ 1000) (hf : fget L f = some t) (hl : ¬ (1 ≤ len ∧ len ≤ 4096)) (o : Own w (RefT P b at_ L O now aw :: P :: R)) :
    Calls Tryz.prog 73 #[.pointer (some ⟨b, 0, none⟩), .int .i64 f, .int .i64 len] w (IsRet (.int .i64 1) w) := by
  have hat := index_spec f hL o
  obtain ⟨i, hi, hai⟩ := idxT_some 0 L hf
  rw [hai, Nat.zero_add] at hat
  clear hf hi hai
  by_cases h1 : len < 1
  · clear hl
    go_enter Tryz.func73, Tryz.ntmps73
    go_wp2_with fail
    refine hat.mono ?_
    rintro e1 w1 ⟨rfl, rfl⟩
    go_wp2
    go_ret
    exact ⟨rfl, rfl⟩
  · have h2 : 4096 < len := by omega
    clear hl
    go_enter Tryz.func73, Tryz.ntmps73
    go_wp2_with fail
    refine hat.mono ?_
    rintro e1 w1 ⟨rfl, rfl⟩
    go_wp2
    go_ret
    exact ⟨rfl, rfl⟩
set_option maxHeartbeats 3200000 in
set_option maxRecDepth 100000 in
theorem chargeT_rng (f len : Int) {t : Tg} (hok : LOk L) (hf : fget L f = some t) (hl : 1 ≤ len ∧ len ≤ 4096) (hr : (finF t.s len t.w).2 ≠ 0) (o : Own w (RefT P b at_ L O now aw :: P :: R)) :
    Calls Tryz.prog 73 #[.pointer (some ⟨b, 0, none⟩), .int .i64 f, .int .i64 len] w (Ret (.int .i64 2) (RefT P b at_ L O now aw :: P :: R) w) := by
  have hL := hok.len
  have hat := index_spec f (by omega) o
  obtain ⟨i, hi, hai⟩ := idxT_some 0 L hf
  rw [hai, Nat.zero_add] at hat
  have hil := (List.getElem?_eq_some_iff.1 hi).1
  have hrng := hok.rng t (List.mem_of_getElem? hi)
  obtain ⟨a, c, a2, c2, ⟨⟨hP, hs⟩, hc, hP2⟩, o1⟩ := RefT.iff.1 o
  obtain ⟨g, so, hag, d0, d1, d2⟩ := hP _ _ (o1.up 1) i t hi
  subst hag
  obtain ⟨t0, t1, t2⟩ := t
  dsimp only at d0 d1 d2 hrng hr
  have c1 := o1.cell 1
  have hfin := fun w => finishT_spec t2 len t1 hl ⟨hrng.2.2.1, hrng.2.2.2.1⟩ ⟨hrng.2.2.2.2.1, hrng.2.2.2.2.2⟩ w
  have hneb : ((finF t2 len t1).2 == 0) = false := by rw [beq_eq_false_iff_ne]; exact hr
  generalize (finF t2 len t1).1 = r1 at *
  generalize (finF t2 len t1).2 = r2 at *
  have ct := IsRet.still (hfin w.drew)
  obtain ⟨l1, l2⟩ := hl
  clear hr hrng hai hi hf
  go_enter Tryz.func73, Tryz.ntmps73
  go_wp2_with fail
  refine hat.mono ?_
  rintro e1 w1 ⟨rfl, rfl⟩
  go_wp2
  go_quiet ((go_at_call 102; exact Calls.quiet_of_same (quiet_form (hfin _))))
  go_wp2
  go_ret
  exact ⟨rfl, o.drewN _, ⟨rfl, rfl, rfl⟩⟩
end
end Go.Proofs.YtjpahfkchhnpoaaGreat
