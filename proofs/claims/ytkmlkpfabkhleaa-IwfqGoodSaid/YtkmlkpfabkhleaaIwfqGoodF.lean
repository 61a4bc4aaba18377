/- Texts that the law rests on, put together by a program. -/
import Derived.Test.YtkmlkpfabkhleaaIwfqGoodE
import Derived.Deep.RegionHeld3
import Derived.Test.YtkmlkpfabkhleaaIwfqGoodC
/- The reference of chapter 13: Join. -/
namespace Go.Proofs.Ytkmlkpfabkhleaa
open Go.RowKit
open SP

section
variable {P : SP} {W w w' : World} {R : List SP} {b : Nat} {at_ now aw : Int} {L O : List Tg}
def JR1 (P : SP) (b xb : Nat) (f wt : Int) (at_ : Int) (L O : List Tg) (now aw : Int) (R : List SP) (w : World) (v8 v9 : Value) (wr : World) : Prop :=
  ∃ (i : Nat) (a : Option Addr) (c : Nat), v8 = .slice a (delT f (O.take i)).length c ∧ v9 = .int .i64 (i : Int) ∧ i ≤ O.length ∧
    Own wr (slc 106 3 a (delT f (O.take i)).length c (flat tagC (delT f (O.take i))) :: cel xb 106 [.int .i64 f, .int .i64 wt, .int .i64 (max now (oldM f (O.take i)))] :: RefT P b at_ L O now aw :: P :: R) ∧ Calm w wr
def JR2 (P : SP) (b xb : Nat) (x : Tg) (at_ : Int) (L O2 : List Tg) (a8 : Option Addr) (c8 : Nat) (a : Option Addr) (c : Nat) (now aw : Int) (R : List SP) (w : World) (fin : Bool) (v10 : Value) (wr : World) : Prop :=
  ∃ (k : Nat), v10 = .int .i64 (k : Int) ∧ k ≤ L.length ∧ (∀ (j : Nat) (t : Tg), j < k → L[j]? = some t → t.f < x.f) ∧ (fin = true → ∀ t : Tg, L[k]? = some t → ¬ t.f < x.f) ∧
    Own wr (cel b 115 [.int .i64 at_, .slice a L.length c, .slice a8 O2.length c8, .int .i64 now, .int .i64 aw] :: slc 106 3 a8 O2.length c8 (flat tagC O2) :: cel xb 106 [.int .i64 x.f, .int .i64 x.w, .int .i64 x.s] :: P :: R) ∧ Calm w wr
def JoinT (b : Nat) (at_ : Int) (L O : List Tg) (now aw : Int) (P : SP) (R : List SP) (w : World) (e : Ending) (w' : World) : Prop :=
  ∃ P', PExtT P P' ∧ Ret (.int .i64 0) (RefT P' b at_ L O now aw :: P' :: R) w e w'
theorem joinT_end {P : SP} {w8 : World} {R : List SP} {b xb nb : Nat} {at_ now aw : Int} {L2 O2 : List Tg} {a8 a9 a0 : Option Addr} {n9 c8 c9 n0 c0 : Nat} {v0 v1 v2 : Value} {es : List Value} {xs : List Value} (hL2 : xs = flat tagC L2) (hn : n9 = L2.length)
    (o : Own w8 (slc 106 3 a9 n9 c9 xs :: SP.blk nb (.cells es.toArray 106 (0, 0)) :: cel b 115 [.int .i64 at_, .slice a0 n0 c0, .slice a8 O2.length c8, .int .i64 now, .int .i64 aw] :: slc 106 3 a8 O2.length c8 (flat tagC O2) :: cel xb 106 [v0, v1, v2] :: P :: R)) :
    Own (w8.setCell ⟨b, 1, none⟩ (.slice a9 n9 c9)) (RefT (st [slc 106 3 a9 n9 c9 xs, st [slc 106 3 a8 O2.length c8 (flat tagC O2), P]]) b at_ L2 O2 now aw :: st [slc 106 3 a9 n9 c9 xs, st [slc 106 3 a8 O2.length c8 (flat tagC O2), P]] :: R) := by
  subst hL2
  subst hn
  have h1 := slOk_slc o
  have h2 := slOk_slc (o.up 3)
  have n1 := o.slc_len.2.1
  have n2 := (o.up 3).slc_len.2.1
  have oA := ((o.up 2).setCell 1 (.slice a9 L2.length c9)).re [2, 4, 1, 3, 5, 0] 2
  have oB : Own (w8.setCell ⟨b, 1, none⟩ (.slice a9 L2.length c9)) (st [slc 106 3 a8 O2.length c8 (flat tagC O2), P] :: _) := Own.st.2 (oA.re [1, 2, 0, 3])
  have oC : Own (w8.setCell ⟨b, 1, none⟩ (.slice a9 L2.length c9)) (st [slc 106 3 a9 L2.length c9 (flat tagC L2), st [slc 106 3 a8 O2.length c8 (flat tagC O2), P]] :: _) := Own.st.2 (oB.re [1, 0, 2])
  exact RefT.iff.2 ⟨a9, c9, a8, c8, ⟨⟨(tagsAt_slc _ _ _ _ rfl).new, h1⟩, n1, ⟨PExtT.add _ _ _ _ (tagsAt_slc _ _ _ _ rfl).new, h2⟩, n2⟩, oC.swap⟩
set_option maxHeartbeats 6400000 in
set_option maxRecDepth 100000 in
theorem joinT_spec (f wt : Int) (hf : 0 ≤ f ∧ f < 32) (hw : 1 ≤ wt ∧ wt ≤ 16) (hn : fget L f = none) (hL : L.length ≤ 1000) (hO : O.length ≤ 1000) (hr : ∀ t ∈ O, 0 ≤ t.s ∧ t.s ≤ 1099511627776) (h0 : 0 ≤ now ∧ now ≤ 1099511627776) (o : Own w (RefT P b at_ L O now aw :: P :: R)) :
    Calls Try.prog 24 #[.pointer (some ⟨b, 0, none⟩), .int .i64 f, .int .i64 wt] w (JoinT b at_ (insT ⟨f, wt, max now (oldM f O)⟩ L) (delT f O) now aw P R w) := by
  have hat := index_spec f hL o
  rw [idxT_none 0 L hn] at hat
  have hgw := goodW_spec wt w
  have hdw : decide (1 ≤ wt ∧ wt ≤ 16) = true := by simp; exact hw
  rw [hdw] at hgw
  obtain ⟨a, c, a2, c2, ⟨⟨hP1, hs1⟩, hc1, ⟨hP2, hs2⟩, hc2⟩, o1⟩ := RefT.iff.1 o
  have d3 := o1.cell 3
  have hlt := o1.celLt
  obtain ⟨hf0, hf1⟩ := hf
  clear hdw hn hw
  have hT : JR1 P b w.heap.size f wt at_ L O now aw R w (.slice none 0 0) (.int .i64 0) (w.alloc (.cells #[.int .i64 f, .int .i64 wt, .int .i64 now] 106)) :=
    ⟨0, none, 0, rfl, rfl, by omega, by
      have := (o.alloc (.cells #[.int .i64 f, .int .i64 wt, .int .i64 now] 106)).slc_nil (e := 106) (size := 3)
      have e : max now (oldM f (O.take 0)) = now := by show max now 0 = now; omega
      rw [e]; exact this, ⟨rfl, rfl, rfl⟩⟩
  go_enter Try.func24, Try.ntmps24
  go_wp2_with fail
  refine hgw.mono ?_
  rintro e1 w1 ⟨rfl, rfl⟩
  go_wp2_with fail
  refine hat.mono ?_
  rintro e2 w2 ⟨rfl, rfl⟩
  go_wp2
  go_loopw [8, 9] (fun v8 v9 wr => JR1 P b w.heap.size f wt at_ L O now aw R w v8 v9 wr) (fun _ v9 _ => O.length - (intOf v9).toNat)
  case atStart => exact hT
  case round =>
    clear hT hgw hat d3 o1 o
    obtain ⟨i, a8, c8, rfl, rfl, hi, oR, kR⟩ := hrel
    obtain ⟨a, c, a2, c2, ⟨⟨hP1, hs1⟩, hc1, ⟨hP2, hs2⟩, hc2⟩, o1⟩ := RefT.iff.1 (oR.up 2)
    have e1 := o1.cell 1
    have e2 := o1.cell 2
    have el := o1.celLt
    have ef := o1.frozen
    have x0 := (o1.up 2).cell 0
    have x1 := (o1.up 2).cell 1
    have x2 := (o1.up 2).cell 2
    have xl := (o1.up 2).celLt
    have xf := (o1.up 2).frozen
    by_cases hio : i < O.length
    · obtain ⟨⟨y0, y1, y2⟩, hy⟩ : ∃ y, O[i]? = some y := ⟨_, List.getElem?_eq_getElem hio⟩
      obtain ⟨g, so, hg, d0, d1, d2⟩ := hP2 _ _ (o1.up 3) i _ hy
      subst hg
      dsimp only at d0 d1 d2
      have hts := take_snoc hy
      have HTS := Lib.hid hts
      clear hts hy
      by_cases he : y0 = f
      · subst he
        have hmx : max (max now (oldM y0 (O.take i))) y2 = max now (oldM y0 (O.take (i + 1))) := by
          rw [HTS.out, oldM_snoc, if_pos rfl]
          show max (max now _) y2 = max now (max _ y2)
          omega
        have hdl : delT y0 (O.take (i + 1)) = delT y0 (O.take i) := by rw [HTS.out, delT_snoc, if_pos rfl]
        have HDL := Lib.hid hdl
        clear hdl
        go_wp2
        refine wp_region_tail 10 (by kernel_rfl) (by kernel_rfl) ?_
        simp only [List.take_succ_cons, List.take_zero, List.drop_succ_cons, List.drop_zero]
        repeat still_step
        refine wpStill_nil ?_
        go_wp2
        go_roundw
        case rel =>
          refine ⟨i + 1, a8, c8, by rw [HDL.out], by go_num, by omega, ?_, kR.trans ⟨rfl, rfl, rfl⟩⟩
          rw [HDL.out, ← hmx]
          have oX := ((oR.drew.up 1).setCell 2 (.int .i64 (max (max now (oldM y0 (O.take i))) y2))).swap
          exact oX
        case measure => simp [intOf]; omega
      · have heb : (y0 == f) = false := by simpa using he
        have hdl : delT f (O.take (i + 1)) = delT f (O.take i) ++ [⟨y0, y1, y2⟩] := by rw [HTS.out, delT_snoc, if_neg he]
        have hom : oldM f (O.take (i + 1)) = oldM f (O.take i) := by rw [HTS.out, oldM_snoc, if_neg he]
        have hdn : (delT f (O.take i)).length ≤ 1000 := by have := delT_len f (O.take i); rw [List.length_take] at this; omega
        have HDL := Lib.hid hdl
        have HOM := Lib.hid hom
        clear hdl hom
        obtain ⟨Dl, hDl⟩ : ∃ Dl, Dl = delT f (O.take i) := ⟨_, rfl⟩
        rw [← hDl] at oR hdn
        have HDl := Lib.hid hDl
        rw [← hDl]
        clear hDl
        have oN := (oR.alloc (.cells #[.int .i64 y0, .int .i64 y1, .int .i64 y2] 106)).re [1, 0, 2, 3, 4]
        have hnw := Own.news (T := 106) (vs := [.int .i64 y0, .int .i64 y1, .int .i64 y2]) (oR.alloc _)
        go_wp2_with (at_builtin; refine wpList_append_slc rfl _ _ rfl Try.tagT rfl oN ⟨wr.heap.size, 0, none⟩ 1 1 [.int .i64 y0, .int .i64 y1, .int .i64 y2] rfl rfl hnw (by intro u hu; simp at hu; rcases hu with rfl | rfl | rfl <;> rfl) (by unfold maxLen; omega) (by omega) ?k2)
        case k2 =>
        intro a7 c7 w7 o7 k7
        have hfl : flat tagC (delT f (O.take (i + 1))) = flat tagC Dl ++ [.int .i64 y0, .int .i64 y1, .int .i64 y2] := by rw [HDL.out, ← HDl.out, flat_append]; rfl
        have hln : (delT f (O.take (i + 1))).length = Dl.length + 1 := by rw [HDL.out, ← HDl.out, List.length_append, List.length_singleton]
        have HFL := Lib.hid hfl
        have HLN := Lib.hid hln
        clear hfl hln
        go_wp2
        go_roundw
        case rel => exact ⟨i + 1, a7, c7, by rw [HLN.out], by go_num, by omega, by rw [HLN.out, HFL.out, HOM.out]; exact o7.re [1, 0, 2, 3, 4] 1, kR.trans k7.al⟩
        case measure => simp [intOf]; omega
    · obtain rfl : i = O.length := by omega
      rw [List.take_length] at oR o1 x2
      obtain ⟨O2, hO2⟩ : ∃ O2, O2 = delT f O := ⟨_, rfl⟩
      obtain ⟨xs, hxs⟩ : ∃ xs, xs = max now (oldM f O) := ⟨_, rfl⟩
      have hO2l : O2.length ≤ 1000 := by have := delT_len f O; rw [hO2]; omega
      rw [List.take_length, ← hO2, ← hxs]
      rw [← hO2, ← hxs] at o1
      rw [← hxs] at x2
      have HO2 := Lib.hid hO2
      have HXS := Lib.hid hxs
      clear hO2 hxs oR
      have oB : Own (wr.setCell ⟨b, 2, none⟩ (.slice a8 O2.length c8)) (cel b 115 [.int .i64 at_, .slice a L.length c, .slice a8 O2.length c8, .int .i64 now, .int .i64 aw] :: _) := o1.setCell 2 (.slice a8 O2.length c8)
      have kB : Calm w (wr.setCell ⟨b, 2, none⟩ (.slice a8 O2.length c8)) := kR.trans ⟨rfl, rfl, rfl⟩
      clear o1
      go_upto_block 2 with fail
      go_cut [10] (fun v10 wc => JR2 P b w.heap.size ⟨f, wt, xs⟩ at_ L O2 a8 c8 a c now aw R w true v10 wc)
      case first =>
        go_wp2
        go_loopw [10] (fun v10 wc => JR2 P b w.heap.size ⟨f, wt, xs⟩ at_ L O2 a8 c8 a c now aw R w false v10 wc) (fun v _ => L.length - (intOf v).toNat)
        case atStart => exact ⟨0, rfl, by omega, fun j t hj => by omega, fun h => (by cases h), oB, kB⟩
        case round =>
          clear oB kB e1 e2 el ef x0 x1 x2 xl xf hP2 hs2 hc2
          obtain ⟨k, rfl, hk, hlk, -, oK, kK⟩ := hrel
          have e1 := oK.cell 1
          by_cases hkl : k < L.length
          · obtain ⟨⟨y0, y1, y2⟩, hy⟩ : ∃ y, L[k]? = some y := ⟨_, List.getElem?_eq_getElem hkl⟩
            obtain ⟨g, so, hg, d0, d1, d2⟩ := hP1 _ _ (oK.up 3) k _ hy
            subst hg
            have HY := Lib.hid hy
            clear hy
            dsimp only at d0 d1 d2
            by_cases hl : y0 < f
            · go_wp2
              go_roundw
              case rel =>
                refine ⟨k + 1, by go_num, by omega, fun j t hj ht => ?_, fun h => (by cases h), oK, kK⟩
                by_cases hjk : j = k
                · subst hjk; rw [HY.out] at ht; cases ht; exact hl
                · exact hlk j t (by omega) ht
              case measure => simp [intOf]; omega
            · go_wp2
              go_meet
              exact ⟨k, rfl, hk, hlk, fun _ t ht => by rw [HY.out] at ht; cases ht; show ¬ y0 < f; omega, oK, kK⟩
          · go_wp2
            go_meet
            exact ⟨k, rfl, hk, hlk, fun _ t ht => by have := (List.getElem?_eq_some_iff.1 ht).1; omega, oK, kK⟩
      case rest =>
        clear oB kB e1 e2 el ef x0 x1 x2 xl xf hP2 hs2 hc2
        obtain ⟨k, rfl, hk, hlk, hfin, oK, kK⟩ := hcut
        have hins := insT_split ⟨f, wt, xs⟩ k L hk hlk (hfin rfl)
        have HI := Lib.hid hins
        clear hins hlk hfin
        have e1 := oK.cell 1
        have el := oK.celLt
        have x0 := (oK.up 2).cell 0
        have x1 := (oK.up 2).cell 1
        have x2 := (oK.up 2).cell 2
        have xl := (oK.up 2).celLt
        have oZ := slc_zero (e := 106) (size := 3) ((oK.alloc (.cells #[] 106)))
        have src0 : ∀ (w : World) (a : Option Addr) (c' : Nat), IsSrc w (.slice a 0 c') 3 0 [] := fun w a c' => ⟨a, c', rfl, by simp, by simp, .inl rfl⟩
        have SRC := Lib.hid src0
        clear src0
        rcases hs1 with ⟨rfl, rfl⟩ | ⟨g, rfl⟩
        · obtain rfl : L = [] := List.eq_nil_of_length_eq_zero (by omega)
          obtain rfl : k = 0 := by simpa using hk
          go_wp2_with (at_builtin; refine wpList_append_src rfl _ _ rfl Try.tagT rfl oZ rfl (SRC.out _ _ _) (by unfold maxLen; omega) (by omega) ?k1)
          case k1 =>
          intro a5 c5 w5 o5 k5
          have q2 := (o5.up 1).cell 1
          have x0 := (o5.up 3).cell 0
          have x1 := (o5.up 3).cell 1
          have x2 := (o5.up 3).cell 2
          have oN := (o5.alloc (.cells #[.int .i64 f, .int .i64 wt, .int .i64 xs] 106)).re [1, 0, 2, 3, 4, 5]
          have hnw := Own.news (T := 106) (vs := [.int .i64 f, .int .i64 wt, .int .i64 xs]) (o5.alloc _)
          go_wp2_with (at_builtin; refine wpList_append_slc rfl _ _ rfl Try.tagT rfl oN ⟨w5.heap.size, 0, none⟩ 1 1 [.int .i64 f, .int .i64 wt, .int .i64 xs] rfl rfl hnw (by intro u hu; simp at hu; rcases hu with rfl | rfl | rfl <;> rfl) (by unfold maxLen; omega) (by omega) ?k2)
          case k2 =>
          intro a7 c7 w7 o7 k7
          have q7 := (o7.up 2).cell 1
          have ql7 := (o7.up 2).celLt
          go_wp2_with (at_builtin; refine wpList_append_src rfl _ _ rfl Try.tagT rfl o7 rfl (SRC.out _ _ _) (by unfold maxLen; omega) (by omega) ?k3)
          case k3 =>
          intro a9 c9 w9 o9 k9
          have q9 := (o9.up 2).cell 1
          have qf9 := (o9.up 2).frozen
          have ql9 := (o9.up 2).celLt
          have oE := joinT_end (L2 := insT ⟨f, wt, xs⟩ []) (by rw [HI.out]; rfl) (by rw [HI.out]; rfl) o9
          rw [HO2.out, HXS.out] at oE
          go_wp2
          go_ret
          exact ⟨_, PExtT.trans (PExtT.add _ _) (PExtT.add _ _), rfl, oE, kK.trans (Calm.trans ⟨k5.os, k5.tape, k5.output⟩ (k7.al.trans (k9.trans ⟨rfl, rfl, rfl⟩)))⟩
        · have b0 : (0 : Int) ≤ (k : Int) := by omega
          have b1 : (k : Int) ≤ (c : Int) := by omega
          have b1' : k ≤ c := by omega
          have b2 : (k : Int) ≤ (L.length : Int) := by omega
          have s1 := tags_cut (i := 0) (k := k) (c := c) hP1 (by omega) (oZ.up 4)
          rw [Nat.zero_mul, Nat.add_zero, List.drop_zero] at s1
          by_cases hkc : k = c
          · subst hkc
            have hkL : L.length = k := by omega
            have hdz : L.drop k = [] := List.drop_eq_nil_of_le (by omega)
            have HDZ := Lib.hid hdz
            have z0 : L.length - k = 0 := by omega
            have z1 : (L.length : Int) ≤ (k : Int) := by omega
            have HKL := Lib.hid hkL
            clear hdz hkL
            go_wp2_with (at_builtin; refine wpList_append_src rfl _ _ rfl Try.tagT rfl oZ rfl s1 (by unfold maxLen; omega) (by omega) ?k1)
            case k1 =>
            intro a5 c5 w5 o5 k5
            have q2 := (o5.up 1).cell 1
            have x0 := (o5.up 3).cell 0
            have x1 := (o5.up 3).cell 1
            have x2 := (o5.up 3).cell 2
            have oN := (o5.alloc (.cells #[.int .i64 f, .int .i64 wt, .int .i64 xs] 106)).re [1, 0, 2, 3, 4, 5]
            have hnw := Own.news (T := 106) (vs := [.int .i64 f, .int .i64 wt, .int .i64 xs]) (o5.alloc _)
            go_wp2_with (at_builtin; refine wpList_append_slc rfl _ _ rfl Try.tagT rfl oN ⟨w5.heap.size, 0, none⟩ 1 1 [.int .i64 f, .int .i64 wt, .int .i64 xs] rfl rfl hnw (by intro u hu; simp at hu; rcases hu with rfl | rfl | rfl <;> rfl) (by unfold maxLen; omega) (by omega) ?k2)
            case k2 =>
            intro a7 c7 w7 o7 k7
            have q7 := (o7.up 2).cell 1
            have ql7 := (o7.up 2).celLt
            go_wp2_with (at_builtin; refine wpList_append_src rfl _ _ rfl Try.tagT rfl o7 rfl (SRC.out _ _ _) (by unfold maxLen; omega) (by omega) ?k3)
            case k3 =>
            intro a9 c9 w9 o9 k9
            have q9 := (o9.up 2).cell 1
            have qf9 := (o9.up 2).frozen
            have ql9 := (o9.up 2).celLt
            have oE := joinT_end (L2 := insT ⟨f, wt, xs⟩ L) (by rw [HI.out]; rw [HDZ.out, List.append_nil, flat_append]; rfl) (by rw [HI.out]; rw [HDZ.out, List.append_nil, List.length_append, List.length_take, HKL.out]; simp) o9
            rw [HO2.out, HXS.out] at oE
            go_wp2
            go_ret
            exact ⟨_, PExtT.trans (PExtT.add _ _) (PExtT.add _ _), rfl, oE, kK.trans (Calm.trans ⟨k5.os, k5.tape, k5.output⟩ (k7.al.trans (k9.trans ⟨rfl, rfl, rfl⟩)))⟩
          · have hkc1 : ((k : Int) == (c : Int)) = false := by rw [beq_eq_false_iff_ne]; omega
            have hkc2 : ¬ c = k := by omega
            have hkc3 : ¬ k = c := hkc
            have hdr : (L.drop k).take (L.length - k) = L.drop k := List.take_of_length_le (by rw [List.length_drop]; omega)
            have HDR := Lib.hid hdr
            clear hdr
            go_wp2_with (at_builtin; refine wpList_append_src rfl _ _ rfl Try.tagT rfl oZ rfl s1 (by unfold maxLen; omega) (by omega) ?k1)
            case k1 =>
            intro a5 c5 w5 o5 k5
            have q2 := (o5.up 1).cell 1
            have x0 := (o5.up 3).cell 0
            have x1 := (o5.up 3).cell 1
            have x2 := (o5.up 3).cell 2
            have oN := (o5.alloc (.cells #[.int .i64 f, .int .i64 wt, .int .i64 xs] 106)).re [1, 0, 2, 3, 4, 5]
            have hnw := Own.news (T := 106) (vs := [.int .i64 f, .int .i64 wt, .int .i64 xs]) (o5.alloc _)
            go_wp2_with (at_builtin; refine wpList_append_slc rfl _ _ rfl Try.tagT rfl oN ⟨w5.heap.size, 0, none⟩ 1 1 [.int .i64 f, .int .i64 wt, .int .i64 xs] rfl rfl hnw (by intro u hu; simp at hu; rcases hu with rfl | rfl | rfl <;> rfl) (by unfold maxLen; omega) (by omega) ?k2)
            case k2 =>
            intro a7 c7 w7 o7 k7
            have q7 := (o7.up 2).cell 1
            have ql7 := (o7.up 2).celLt
            have s2 := tags_cut (i := k) (k := L.length - k) (c := c - k) hP1 (by omega) (o7.up 5)
            rw [HDR.out, Nat.zero_add] at s2
            go_wp2_with (at_builtin; refine wpList_append_src rfl _ _ rfl Try.tagT rfl o7 rfl s2 (by unfold maxLen; omega) (by omega) ?k3)
            case k3 =>
            intro a9 c9 w9 o9 k9
            have q9 := (o9.up 2).cell 1
            have qf9 := (o9.up 2).frozen
            have ql9 := (o9.up 2).celLt
            have oE := joinT_end (L2 := insT ⟨f, wt, xs⟩ L) (by rw [HI.out]; rw [flat_append, flat_append]; simp [flat, tagC]) (by rw [HI.out]; rw [List.length_append, List.length_append, List.length_take, List.length_drop]; simp; omega) o9
            rw [HO2.out, HXS.out] at oE
            go_wp2
            go_ret
            exact ⟨_, PExtT.trans (PExtT.add _ _) (PExtT.add _ _), rfl, oE, kK.trans (Calm.trans ⟨k5.os, k5.tape, k5.output⟩ (k7.al.trans (k9.trans ⟨rfl, rfl, rfl⟩)))⟩
end
end Go.Proofs.Ytkmlkpfabkhleaa

/- The reference of chapter 12: ValidTags, Least, Select, Cost, Finish. -/
namespace Go.Proofs.Ytkmlkpfabkhleaa
open Go.RowKit
open SP
section
variable {P : SP} {W w w' : World} {R : List SP} {b : Nat} {at_ now aw : Int} {L O : List Tg}
theorem quiet_form {g : Nat} {args : Array Value} {v : Value} {w : World} (h : Calls Try.prog g args w (IsRet v w)) : Calls Try.prog g args w (fun e w' => e = .returned v ∧ w' = w) := h.mono (by rintro e w' ⟨rfl, rfl⟩; exact ⟨rfl, rfl⟩)
def VtRel (L : List Tg) (Sp : SP) (R : List SP) (w : World) (v3 : Value) (wr : World) : Prop :=
  ∃ (i : Nat), v3 = .int .i64 (i : Int) ∧ i ≤ L.length ∧ Own wr (Sp :: R) ∧ Calm w wr
set_option maxHeartbeats 3200000 in
set_option maxRecDepth 100000 in
theorem validT_spec {Sp : SP} {L : List Tg} {a : Option Addr} {n c : Nat} (hS : TagsAt Sp a L) (hok : LOk L) (hn : n = L.length) (o : Own w (Sp :: R)) :
    Calls Try.prog 93 #[.slice a n c] w (Ret (.bool true) (Sp :: R) w) := by
  have hT : VtRel L Sp R w (.int .i64 0) w := ⟨0, rfl, by omega, o, Calm.refl w⟩
  have hl := hok.len
  have hn2 : n ≤ 32 := by omega
  have Hn := Lib.hid hn
  clear hn
  go_enter Try.func93, Try.ntmps93
  go_wp2
  go_loopw [3] (fun v3 wr => VtRel L Sp R w v3 wr) (fun v3 _ => n - (intOf v3).toNat)
  case atStart => exact hT
  case round =>
    clear hT
    obtain ⟨i, rfl, hi, oR, kR⟩ := hrel
    by_cases hlt : i < n
    · obtain ⟨t, ht⟩ : ∃ t, L[i]? = some t := ⟨_, List.getElem?_eq_getElem (by have := Hn.out; omega)⟩
      obtain ⟨g, so, rfl, d0, d1, d2⟩ := hS _ _ oR i _ ht
      have h2 := hok.rng t (List.mem_of_getElem? ht)
      have hprev : ∀ j, i = j + 1 → ∃ u, L[j]? = some u ∧ u.f < t.f := fun j hj => by
        have hjl : j < L.length := by have := (List.getElem?_eq_some_iff.1 ht).1; omega
        refine ⟨_, List.getElem?_eq_getElem hjl, ?_⟩
        have := List.pairwise_iff_getElem.1 hok.asc j i hjl (List.getElem?_eq_some_iff.1 ht).1 (by omega)
        rw [(List.getElem?_eq_some_iff.1 ht).2] at this
        exact this
      obtain ⟨x, y, z⟩ := t
      dsimp only at d0 d1 d2 h2 hprev
      clear ht
      obtain ⟨h2, h3, h4, h5, h6, h7⟩ := h2
      have hx0 : decide (x < 0) = false := by simp; omega
      have hx1 : decide (32 ≤ x) = false := by simp; omega
      have hz0 : decide (z < 0) = false := by simp; omega
      have hz1 : decide (1099511627776 < z) = false := by simp; omega
      have hw : decide (1 ≤ y ∧ y ≤ 16) = true := by simp; omega
      have hwt := fun w => goodW_spec y w
      rw [hw] at hwt
      clear hw
      by_cases hi0 : i = 0
      · subst hi0
        clear hprev
        simp only [Nat.zero_mul, Nat.add_zero] at d0 d1 d2
        go_wp2
        go_quiet ((go_at_call 59; exact Calls.quiet_of_same (quiet_form (hwt _))))
        go_wp2
        go_roundw
        case rel => exact ⟨0 + 1, by go_num, by have := Hn.out; omega, oR.drewN _, ⟨kR.os, kR.tape, kR.output⟩⟩
        case measure => simp [intOf]; omega
      · obtain ⟨j, hj⟩ : ∃ j, i = j + 1 := ⟨i - 1, by omega⟩
        obtain ⟨u, hu, hlt2⟩ := hprev j hj
        obtain ⟨g', so', hgg, e0, _, _⟩ := hS _ _ oR j _ hu
        cases hgg
        obtain ⟨x', y', z'⟩ := u
        dsimp only at e0 hlt2
        have hle : decide (x ≤ x') = false := by simp; omega
        have hi9 : decide (0 < i) = true := by simp; omega
        have hw1 : IntKind.i64.wrap ((i : Int) - 1) = (j : Int) := by rw [IntKind.wrap_i64]; omega
        have hj0 : (0 : Int) < (i : Int) := by omega
        have hj1 : (0 : Int) ≤ (j : Int) := by omega
        have hj2 : (j : Int) < (n : Int) := by omega
        have hj3 : j < n := by omega
        clear hu hprev hj hi0
        go_wp2
        go_quiet ((go_at_call 59; exact Calls.quiet_of_same (quiet_form (hwt _))))
        go_wp2
        go_roundw
        case rel => exact ⟨i + 1, by go_num, by have := Hn.out; omega, oR.drewN _, ⟨kR.os, kR.tape, kR.output⟩⟩
        case measure => simp [intOf]; omega
    · go_wp2
      go_ret
      exact ⟨rfl, oR, kR⟩
end
end Go.Proofs.Ytkmlkpfabkhleaa

/- The reference of chapter 12: Least, Select, Cost, Finish. -/
namespace Go.Proofs.Ytkmlkpfabkhleaa
open Go.RowKit
open SP
section
variable {P : SP} {W w w' : World} {R : List SP} {b : Nat} {at_ now aw : Int} {L O : List Tg}
theorem leastN_one : ∀ {L : List Tg}, L ≠ [] → leastG L (L.drop 1) 1 0 = leastN L
  | [], h => absurd rfl h
  | t0 :: L0, _ => by
    unfold leastN
    conv => rhs; unfold leastG
    rw [if_neg (by show ¬ t0.s < t0.s; omega)]
    rfl
set_option maxHeartbeats 3200000 in
set_option maxRecDepth 100000 in
theorem leastT_spec {Sp : SP} {L : List Tg} {a : Option Addr} {n c : Nat} (hS : TagsAt Sp a L) (hok : LOk L) (hn : n = L.length) (o : Own w (Sp :: R)) :
    Calls Try.prog 61 #[.slice a n c] w (Ret (.int .i64 (if L = [] then -1 else (leastN L : Int))) (Sp :: R) w) := by
  have hv := validT_spec (c := c) hS hok hn o
  by_cases hz : L = []
  · rw [if_pos hz]
    have hn0 : n = 0 := by rw [hn, hz]; rfl
    subst hn0
    clear hn hz
    go_enter Try.func61, Try.ntmps61
    go_wp2_with fail
    refine hv.mono ?_
    rintro e w1 ⟨rfl, o1, k1⟩
    go_wp2
    go_ret
    exact ⟨rfl, o1, k1⟩
  · rw [if_neg hz]
    have hpos : 0 < n := by rw [hn]; exact List.length_pos_iff.2 hz
    have hl := hok.len
    have hn2 : n ≤ 32 := by omega
    have hT0 := leastN_one hz
    generalize leastN L = T at *
    have HT0 := Lib.hid hT0
    have Hn := Lib.hid hn
    have hnb : ((n : Int) == 0) = false := by rw [beq_eq_false_iff_ne]; omega
    clear hn hz hT0
    go_enter Try.func61, Try.ntmps61
    go_wp2_with fail
    refine hv.mono ?_
    rintro e w1 ⟨rfl, o1, k1⟩
    have hT : LeastRelT L T Sp R w (.int .i64 0) (.int .i64 1) w1 := ⟨1, 0, rfl, rfl, by have := Hn.out; omega, by have := Hn.out; omega, HT0.out, o1, k1⟩
    go_wp2
    go_loopw [3, 4] (fun v3 v4 wr => LeastRelT L T Sp R w v3 v4 wr) (fun _ v4 _ => n - (intOf v4).toNat)
    case atStart => exact hT
    case round =>
      clear hT hv
      obtain ⟨i, best, rfl, rfl, hi, hb, hE, oR, kR⟩ := hrel
      have HT := Lib.hid hE
      clear hE
      by_cases hlt : i < n
      · obtain ⟨t, ht⟩ : ∃ t, L[i]? = some t := ⟨_, List.getElem?_eq_getElem (by have := Hn.out; omega)⟩
        obtain ⟨u, hu⟩ : ∃ u, L[best]? = some u := ⟨_, List.getElem?_eq_getElem (by have := Hn.out; omega)⟩
        obtain ⟨g, so, rfl, d0, d1, d2⟩ := hS _ _ oR i _ ht
        obtain ⟨g', so', hgg, _, _, e2⟩ := hS _ _ oR best _ hu
        cases hgg
        have hstep : leastG L (L.drop i) i best = leastG L (L.drop (i + 1)) (i + 1) (if t.s < u.s then i else best) := by
          rw [drop_at ht, leastG, List.getD_eq_getElem?_getD, hu]; rfl
        have Hstep := Lib.hid hstep
        have hbn : best < n := by have := Hn.out; omega
        obtain ⟨x, y, z⟩ := t
        obtain ⟨x', y', z'⟩ := u
        dsimp only at d0 d1 d2 e2 Hstep
        clear ht hu hstep
        by_cases hc : z < z'
        · have hd : decide (z < z') = true := by simpa using hc
          go_wp2
          go_quiet (fail)
          go_wp2
          go_roundw
          case rel => exact ⟨i + 1, i, by go_num, rfl, by have := Hn.out; omega, by have := Hn.out; omega, by rw [← HT.out, Hstep.out, if_pos hc], oR.drewN _, ⟨kR.os, kR.tape, kR.output⟩⟩
          case measure => simp [intOf]; omega
        · have hd : decide (z < z') = false := by simpa using hc
          go_wp2
          go_quiet (fail)
          go_wp2
          go_roundw
          case rel => exact ⟨i + 1, best, by go_num, rfl, by have := Hn.out; omega, hb, by rw [← HT.out, Hstep.out, if_neg (by omega)], oR.drewN _, ⟨kR.os, kR.tape, kR.output⟩⟩
          case measure => simp [intOf]; omega
      · go_wp2
        go_ret
        have hbT : best = T := by rw [← HT.out, List.drop_eq_nil_of_le (by have := Hn.out; omega)]; rfl
        exact ⟨by rw [hbT]; rfl, oR, kR⟩
set_option maxHeartbeats 1600000 in
set_option maxRecDepth 100000 in
theorem selectT_spec (hok : LOk L) (o : Own w (RefT P b at_ L O now aw :: P :: R)) :
    Calls Try.prog 26 #[.pointer (some ⟨b, 0, none⟩)] w (Ret (.tuple #[.int .i64 (selT L).1, .int .i64 (selT L).2]) (RefT P b at_ L O now aw :: P :: R) w) := by
  obtain ⟨a, c, a2, c2, ⟨⟨hP, hs⟩, hc, hP2⟩, o1⟩ := RefT.iff.1 o
  have c1 := o1.cell 1
  have hle := leastT_spec (c := c) hP hok rfl (o1.up 1)
  have hl := hok.len
  by_cases hz : L = []
  · rw [if_pos hz] at hle
    have e : selT L = (0, 5) := if_pos hz
    rw [e]; clear e hz
    go_enter Try.func26, Try.ntmps26
    go_wp2_with fail
    refine hle.mono ?_
    rintro e w1 ⟨rfl, o2, k2⟩
    go_wp2
    go_ret2
    exact ⟨rfl, RefT.iff.2 ⟨a, c, a2, c2, ⟨⟨hP, hs⟩, hc, hP2⟩, o2.re [1, 0]⟩, k2⟩
  · rw [if_neg hz] at hle
    have e : selT L = ((lst L).f, 0) := if_neg hz
    rw [e]; clear e
    have hlt := leastN_lt hz
    have hg : L[leastN L]? = some (lst L) := by
      unfold lst
      rw [List.getD_eq_getElem?_getD, List.getElem?_eq_getElem hlt]; rfl
    generalize leastN L = T at *
    generalize lst L = tt at *
    obtain ⟨x, y, z⟩ := tt
    clear hz
    go_enter Try.func26, Try.ntmps26
    go_wp2_with fail
    refine hle.mono ?_
    rintro e w1 ⟨rfl, o2, k2⟩
    obtain ⟨g, so, hag, d0, d1, d2⟩ := hP _ _ o2 T _ hg
    subst hag
    dsimp only at d0 d1 d2
    have q1 := (o2.up 1).cell 1
    clear hg
    go_wp2
    go_ret2
    exact ⟨rfl, RefT.iff.2 ⟨_, c, a2, c2, ⟨⟨hP, hs⟩, hc, hP2⟩, o2.re [1, 0]⟩, k2⟩
set_option maxHeartbeats 1600000 in
theorem costT_spec (len wt : Int) (h1 : 1 ≤ len ∧ len ≤ 4096) (h2 : 1 ≤ wt ∧ wt ≤ 16) (w : World) : Calls Try.prog 94 #[.int .i64 len, .int .i64 wt] w (IsRet (.tuple #[.int .i64 (cst len wt), .int .i64 0]) w) := by
  have hw := goodW_spec wt w
  have hd : decide (1 ≤ wt ∧ wt ≤ 16) = true := by simp; exact h2
  rw [hd] at hw
  obtain ⟨a1, a2⟩ := h1
  obtain ⟨b1, b2⟩ := h2
  obtain ⟨c1, c2⟩ := cst_range b1 b2 a1 a2
  obtain ⟨u1, u2⟩ := unit1_range b1 b2
  have hq : IntKind.i64.wrap (Int.tdiv 720720 wt) = unit1 wt := by
    show IntKind.i64.wrap (unit1 wt) = unit1 wt
    rw [IntKind.wrap_i64]; omega
  have hm : IntKind.i64.wrap (len * unit1 wt) = cst len wt := by
    show IntKind.i64.wrap (cst len wt) = cst len wt
    rw [IntKind.wrap_i64]; omega
  have hz : wt ≠ 0 := by omega
  clear hd
  go_enter Try.func94, Try.ntmps94
  go_wp2_with fail
  refine hw.mono ?_
  rintro e1 w1 ⟨rfl, rfl⟩
  go_wp2
  go_ret2
  exact ⟨rfl, rfl⟩
set_option maxHeartbeats 1600000 in
theorem finishT_spec (s len wt : Int) (h1 : 1 ≤ len ∧ len ≤ 4096) (h2 : 1 ≤ wt ∧ wt ≤ 16) (hs : 0 ≤ s ∧ s ≤ 1099511627776) (w : World) :
    Calls Try.prog 62 #[.int .i64 s, .int .i64 len, .int .i64 wt] w (IsRet (.tuple #[.int .i64 (finF s len wt).1, .int .i64 (finF s len wt).2]) w) := by
  have hc := costT_spec len wt h1 h2 w
  obtain ⟨c1, c2⟩ := cst_range h2.1 h2.2 h1.1 h1.2
  have hb : ¬ (badLW len wt ∨ s < 0 ∨ 1099511627776 < s) := by unfold badLW; omega
  obtain ⟨s1, s2⟩ := hs
  unfold finF
  rw [if_neg hb]
  generalize cst len wt = z at *
  clear hb h1 h2
  have hw : IntKind.i64.wrap (s + z) = s + z := by rw [IntKind.wrap_i64]; omega
  by_cases h3 : 1099511627776 < s + z
  · rw [if_pos h3]
    go_enter Try.func62, Try.ntmps62
    go_wp2_with fail
    refine hc.mono ?_
    rintro e1 w1 ⟨rfl, rfl⟩
    go_wp2
    go_ret2
    exact ⟨rfl, rfl⟩
  · rw [if_neg h3]
    go_enter Try.func62, Try.ntmps62
    go_wp2_with fail
    refine hc.mono ?_
    rintro e1 w1 ⟨rfl, rfl⟩
    go_wp2
    go_ret2
    exact ⟨rfl, rfl⟩
end
end Go.Proofs.Ytkmlkpfabkhleaa

/- The reference of chapter 13: SetWeight, lower. -/
namespace Go.Proofs.Ytkmlkpfabkhleaa
open Go.RowKit
open SP
theorem setT_at {L : List Tg} (h : LOk L) {i : Nat} {t x : Tg} (ht : L[i]? = some t) (hx : x.f = t.f) : L.set i x = setT x L := setT_atP h.asc ht hx
section
variable {P : SP} {W w w' : World} {R : List SP} {b : Nat} {at_ now aw : Int} {L O : List Tg}
/-- A list of the state's own goes to the pool. -/
theorem refT_newL {a9 a2 : Option Addr} {n9 c9 c2 : Nat} {L2 : List Tg} (hn : n9 = L2.length) (hP2 : (TagsAt P a2 O ∧ SlOk a2 c2) ∧ O.length ≤ c2)
    (o : Own w (slc 106 3 a9 n9 c9 (flat tagC L2) :: cel b 115 [.int .i64 at_, .slice a9 n9 c9, .slice a2 O.length c2, .int .i64 now, .int .i64 aw] :: P :: R)) :
    Own w (RefT (st [slc 106 3 a9 n9 c9 (flat tagC L2), P]) b at_ L2 O now aw :: st [slc 106 3 a9 n9 c9 (flat tagC L2), P] :: R) := by
  subst hn
  have h1 := slOk_slc o
  have n1 := o.slc_len.2.1
  have oC : Own w (st [slc 106 3 a9 L2.length c9 (flat tagC L2), P] :: _) := Own.st.2 (o.re [0, 2, 1])
  exact RefT.iff.2 ⟨a9, c9, a2, c2, ⟨⟨(tagsAt_slc _ _ _ _ rfl).new, h1⟩, n1, ⟨PExtT.add _ _ _ _ hP2.1.1, hP2.1.2⟩, hP2.2⟩, oC.swap⟩
def SetWT (b : Nat) (at_ : Int) (L O : List Tg) (now aw : Int) (P : SP) (R : List SP) (w : World) (er : Int) (e : Ending) (w' : World) : Prop :=
  ∃ P', PExtT P P' ∧ Ret (.int .i64 er) (RefT P' b at_ L O now aw :: P' :: R) w e w'
end
end Go.Proofs.Ytkmlkpfabkhleaa

/- The reference of chapter 13: Leave. -/
namespace Go.Proofs.Ytkmlkpfabkhleaa
open Go.RowKit
open SP
section
variable {P : SP} {W w w' : World} {R : List SP} {b : Nat} {at_ now aw : Int} {L O : List Tg}
def LvMid (b : Nat) (at_ : Int) (L O2 : List Tg) (a : Option Addr) (c : Nat) (now aw : Int) (P : SP) (R : List SP) (w wc : World) : Prop :=
  ∃ P' a2 c2, PExtT P P' ∧ (TagsAt P' a2 O2 ∧ SlOk a2 c2) ∧ O2.length ≤ c2 ∧ Own wc (cel b 115 [.int .i64 at_, .slice a L.length c, .slice a2 O2.length c2, .int .i64 now, .int .i64 aw] :: P' :: R) ∧ Calm w wc
theorem lv_mid {w6 : World} {a6 a0 a : Option Addr} {n n0 c c0 c6 : Nat} {O2 : List Tg} {xs : List Value} (hn : n = O2.length) (hx : xs = flat tagC O2)
    (o : Own w6 (slc 106 3 a6 n c6 xs :: cel b 115 [.int .i64 at_, .slice a L.length c, .slice a0 n0 c0, .int .i64 now, .int .i64 aw] :: P :: R)) (k : Calm w w6) :
    LvMid b at_ L O2 a c now aw P R w (w6.setCell ⟨b, 2, none⟩ (.slice a6 n c6)) := by
  subst hn
  subst hx
  have h1 := slOk_slc o
  have n1 := o.slc_len.2.1
  have oA := (o.swap.setCell 2 (.slice a6 O2.length c6)).re [1, 2, 0]
  have oB : Own (w6.setCell ⟨b, 2, none⟩ (.slice a6 O2.length c6)) (st [slc 106 3 a6 O2.length c6 (flat tagC O2), P] :: _) := Own.st.2 oA
  exact ⟨_, a6, c6, PExtT.add _ _, ⟨(tagsAt_slc _ _ _ _ rfl).new, h1⟩, n1, oB.swap, ⟨k.os, k.tape, k.output⟩⟩
def LvMid2 (b : Nat) (at_ : Int) (L2 O : List Tg) (now aw : Int) (P : SP) (R : List SP) (w wc : World) : Prop :=
  ∃ P', PExtT P P' ∧ Own wc (RefT P' b at_ L2 O now aw :: P' :: R) ∧ Calm w wc
theorem lv_mid2 {P0 : SP} {w6 : World} {a6 a0 a2 : Option Addr} {n n0 c0 c2 c6 : Nat} {L2 : List Tg} {xs : List Value} (hE : PExtT P0 P) (hn : n = L2.length) (hx : xs = flat tagC L2) (hP2 : (TagsAt P a2 O ∧ SlOk a2 c2) ∧ O.length ≤ c2)
    (o : Own w6 (slc 106 3 a6 n c6 xs :: cel b 115 [.int .i64 at_, .slice a0 n0 c0, .slice a2 O.length c2, .int .i64 now, .int .i64 aw] :: P :: R)) (k : Calm w w6) :
    LvMid2 b at_ L2 O now aw P0 R w (w6.setCell ⟨b, 1, none⟩ (.slice a6 n c6)) := by
  subst hx
  have oA := (o.swap.setCell 1 (.slice a6 n c6)).re [1, 0]
  exact ⟨_, hE.trans (PExtT.add _ _), refT_newL hn hP2 oA, ⟨k.os, k.tape, k.output⟩⟩
theorem delT_at {L : List Tg} (h : LOk L) {i : Nat} {t : Tg} (ht : L[i]? = some t) : L.take i ++ L.drop (i + 1) = delT t.f L := delT_atP h.asc ht
def lvO (f : Int) (L O : List Tg) (t : Tg) : List Tg := if delT f L = [] then [] else O ++ [t]
def lvN (f : Int) (L : List Tg) (now : Int) : Int := if delT f L = [] then 0 else now
def LeaveT (b : Nat) (at_ : Int) (L O : List Tg) (now aw : Int) (P : SP) (R : List SP) (w : World) (e : Ending) (w' : World) : Prop :=
  ∃ P', PExtT P P' ∧ Ret (.int .i64 0) (RefT P' b at_ L O now aw :: P' :: R) w e w'
end
end Go.Proofs.Ytkmlkpfabkhleaa

/- The reference of chapter 13: lower, Copy; the program's SetWeight, Rebased, Copy. -/
namespace Go.Proofs.Ytkmlkpfabkhleaa
open Go.RowKit
open SP
section
variable {P : SP} {W w w' : World} {R : List SP} {b : Nat} {at_ now aw : Int} {L O : List Tg}
def LwRel (Sp : SP) (L : List Tg) (by_ : Int) (R : List SP) (w : World) (v5 v6 : Value) (wr : World) : Prop :=
  ∃ (i : Nat) (a : Option Addr) (c : Nat), v5 = .slice a i c ∧ v6 = .int .i64 (i : Int) ∧ i ≤ L.length ∧
    Own wr (slc 106 3 a i c (flat tagC ((L.take i).map (lowO by_))) :: Sp :: R) ∧ Calm w wr
theorem take_snoc' {α : Type} {L : List α} {i : Nat} {x : α} (h : L[i]? = some x) : L.take (i + 1) = L.take i ++ [x] := by rw [List.take_add_one, h]; rfl
set_option maxHeartbeats 3200000 in
set_option maxRecDepth 100000 in
theorem lower_spec {Sp : SP} {a : Option Addr} {n c : Nat} (by_ : Int) (hb : 0 ≤ by_ ∧ by_ ≤ 1099511627776) (hS : TagsAt Sp a L) (hn : n = L.length) (hn2 : n ≤ 1000) (hr : ∀ t ∈ L, 0 ≤ t.s ∧ t.s ≤ 1099511627776) (o : Own w (Sp :: R)) :
    Calls Try.prog 63 #[.slice a n c, .int .i64 by_] w fun e w' => ∃ a' c', Ret (.slice a' n c') (slc 106 3 a' n c' (flat tagC (L.map (lowO by_))) :: Sp :: R) w e w' := by
  have hT : LwRel Sp L by_ R w (.slice none 0 0) (.int .i64 0) w := ⟨0, none, 0, rfl, rfl, by omega, o.slc_nil, Calm.refl w⟩
  have Hn := Lib.hid hn
  clear hn
  obtain ⟨hb0, hb1⟩ := hb
  go_enter Try.func63, Try.ntmps63
  go_wp2
  go_loopw [5, 6] (fun v5 v6 wr => LwRel Sp L by_ R w v5 v6 wr) (fun _ v6 _ => n - (intOf v6).toNat)
  case atStart => exact hT
  case round =>
    clear hT
    obtain ⟨i, a9, c9, rfl, rfl, hi, oR, kR⟩ := hrel
    by_cases hlt : i < n
    · obtain ⟨t, ht⟩ : ∃ t, L[i]? = some t := ⟨_, List.getElem?_eq_getElem (by have := Hn.out; omega)⟩
      obtain ⟨g, so, rfl, d0, d1, d2⟩ := hS _ _ (oR.up 1) i _ ht
      have hrt := hr t (List.mem_of_getElem? ht)
      obtain ⟨x, y, z⟩ := t
      dsimp only at d0 d1 d2 hrt
      have HTS := Lib.hid (take_snoc' ht)
      have HT := Lib.hid ht
      clear ht
      have hw1 : IntKind.i64.wrap (z - by_) = z - by_ := by rw [IntKind.wrap_i64]; omega
      obtain ⟨m, hm⟩ : ∃ m, max (z - by_) 0 = m := ⟨_, rfl⟩
      have HM := Lib.hid hm
      have oN := ((oR.alloc (.cells #[.int .i64 x, .int .i64 y, .int .i64 m] 106)).re [1, 0, 2]).drew
      have sN := news_src (oN.up 1)
      have M1 : Hid (i + 1 ≤ maxLen) := Lib.hid (by unfold maxLen; omega)
      have M2 : Hid ((i + 1) * 24 ≤ 140737488355328) := Lib.hid (by omega)
      have hm2 : (if z - by_ < 0 then 0 else z - by_) = m := by rw [← hm]; split <;> omega
      go_wp2
      go_region_held3 (fun w' => w'.cell? ⟨g, so + i * 3, none⟩ = some (.int .i64 x) ∧ w'.cell? ⟨g, so + i * 3 + 1, none⟩ = some (.int .i64 y) ∧ w'.cell? ⟨g, so + i * 3 + 2, none⟩ = some (.int .i64 z)) (go_keep) (first
        | (refine step_append_src rfl _ _ rfl Try.tagT rfl oN rfl sN M1.out M2.out ?_; intro a6 c6 w6 o6 k6; obtain ⟨_, _, hh, p0, p1, p2⟩ := hS _ _ (o6.up 2) i _ HT.out; cases hh))
      have hfl : flat tagC ((L.take (i + 1)).map (lowO by_)) = flat tagC ((L.take i).map (lowO by_)) ++ [.int .i64 x, .int .i64 y, .int .i64 m] := by
        rw [HTS.out, List.map_append, flat_append, ← HM.out]; rfl
      have HFL := Lib.hid hfl
      clear hfl
      go_wp2
      go_roundw
      case rel => exact ⟨i + 1, a6, c6, rfl, by go_num, by have := Hn.out; omega, by rw [HFL.out]; exact o6.re [1, 0, 2] 1, kR.trans ⟨k6.os, k6.tape, k6.output⟩⟩
      case measure => simp [intOf]; omega
    · go_wp2
      go_ret
      have hin : i = n := by have := Hn.out; omega
      have e : L.take i = L := List.take_of_length_le (by have := Hn.out; omega)
      rw [e] at oR
      subst hin
      exact ⟨a9, c9, rfl, oR, kR⟩
end
end Go.Proofs.Ytkmlkpfabkhleaa

/- The reference of chapter 13: Charge where it gives an error. -/
namespace Go.Proofs.Ytkmlkpfabkhleaa
open Go.RowKit
open SP
section
variable {P : SP} {W w w' : World} {R : List SP} {b : Nat} {at_ now aw : Int} {L O : List Tg}
set_option maxHeartbeats 3200000 in
set_option maxRecDepth 100000 in
theorem chargeT_none (f len : Int) (hL : L.length ≤ 1000) (hf : fget L f = none) (o : Own w (RefT P b at_ L O now aw :: P :: R)) :
    Calls Try.prog 27 #[.pointer (some ⟨b, 0, none⟩), .int .i64 f, .int .i64 len] w (IsRet (.int .i64 6) w) := by
  have hat := index_spec f hL o
  rw [idxT_none 0 L hf] at hat
  clear hf
  go_enter Try.func27, Try.ntmps27
  go_wp2_with fail
  refine hat.mono ?_
  rintro e1 w1 ⟨rfl, rfl⟩
  go_wp2
  go_ret
  exact ⟨rfl, rfl⟩
set_option maxHeartbeats 3200000 in
set_option maxRecDepth 100000 in
theorem chargeT_len (f len : Int) {t : Tg} (hL : L.length ≤ 1000) (hf : fget L f = some t) (hl : ¬ (1 ≤ len ∧ len ≤ 4096)) (o : Own w (RefT P b at_ L O now aw :: P :: R)) :
    Calls Try.prog 27 #[.pointer (some ⟨b, 0, none⟩), .int .i64 f, .int .i64 len] w (IsRet (.int .i64 1) w) := by
  have hat := index_spec f hL o
  obtain ⟨i, hi, hai⟩ := idxT_some 0 L hf
  rw [hai, Nat.zero_add] at hat
  clear hf hi hai
  by_cases h1 : len < 1
  · clear hl
    go_enter Try.func27, Try.ntmps27
    go_wp2_with fail
    refine hat.mono ?_
    rintro e1 w1 ⟨rfl, rfl⟩
    go_wp2
    go_ret
    exact ⟨rfl, rfl⟩
  · have h2 : 4096 < len := by omega
    clear hl
    go_enter Try.func27, Try.ntmps27
    go_wp2_with fail
    refine hat.mono ?_
    rintro e1 w1 ⟨rfl, rfl⟩
    go_wp2
    go_ret
    exact ⟨rfl, rfl⟩
set_option maxHeartbeats 3200000 in
set_option maxRecDepth 100000 in
theorem chargeT_rng (f len : Int) {t : Tg} (hok : LOk L) (hf : fget L f = some t) (hl : 1 ≤ len ∧ len ≤ 4096) (hr : (finF t.s len t.w).2 ≠ 0) (o : Own w (RefT P b at_ L O now aw :: P :: R)) :
    Calls Try.prog 27 #[.pointer (some ⟨b, 0, none⟩), .int .i64 f, .int .i64 len] w (Ret (.int .i64 2) (RefT P b at_ L O now aw :: P :: R) w) := by
  have hL := hok.len
  have hat := index_spec f (by omega) o
  obtain ⟨i, hi, hai⟩ := idxT_some 0 L hf
  rw [hai, Nat.zero_add] at hat
  have hil := (List.getElem?_eq_some_iff.1 hi).1
  have hrng := hok.rng t (List.mem_of_getElem? hi)
  obtain ⟨a, c, a2, c2, ⟨⟨hP, hs⟩, hc, hP2⟩, o1⟩ := RefT.iff.1 o
  obtain ⟨g, so, hag, d0, d1, d2⟩ := hP _ _ (o1.up 1) i t hi
  subst hag
  obtain ⟨t0, t1, t2⟩ := t
  dsimp only at d0 d1 d2 hrng hr
  have c1 := o1.cell 1
  have hfin := fun w => finishT_spec t2 len t1 hl ⟨hrng.2.2.1, hrng.2.2.2.1⟩ ⟨hrng.2.2.2.2.1, hrng.2.2.2.2.2⟩ w
  have hneb : ((finF t2 len t1).2 == 0) = false := by rw [beq_eq_false_iff_ne]; exact hr
  generalize (finF t2 len t1).1 = r1 at *
  generalize (finF t2 len t1).2 = r2 at *
  have ct := IsRet.still (hfin w.drew)
  obtain ⟨l1, l2⟩ := hl
  clear hr hrng hai hi hf
  go_enter Try.func27, Try.ntmps27
  go_wp2_with fail
  refine hat.mono ?_
  rintro e1 w1 ⟨rfl, rfl⟩
  go_wp2
  go_quiet ((go_at_call 62; exact Calls.quiet_of_same (quiet_form (hfin _))))
  go_wp2
  go_ret
  exact ⟨rfl, o.drewN _, ⟨rfl, rfl, rfl⟩⟩
end
end Go.Proofs.Ytkmlkpfabkhleaa
