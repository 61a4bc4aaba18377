/- The reference of chapter 13: Join. -/
import Derived.Test.YtnandakoigmknaaR12
namespace Go.Proofs.Ytnandakoigmknaa
open Go.RowKit
open SP

theorem insT_split (x : Tg) : ∀ (k : Nat) (L : List Tg), k ≤ L.length → (∀ (j : Nat) (t : Tg), j < k → L[j]? = some t → t.f < x.f) → (∀ t : Tg, L[k]? = some t → ¬ t.f < x.f) → insT x L = L.take k ++ [x] ++ L.drop k
  | 0, [], _, _, _ => rfl
  | 0, t :: L, _, _, h2 => by
    unfold insT
    rw [if_neg (h2 t rfl)]
    rfl
  | k + 1, [], hk, _, _ => by simp at hk
  | k + 1, t :: L, hk, h1, h2 => by
    unfold insT
    rw [if_pos (h1 0 t (by omega) rfl), insT_split x k L (by simpa using hk) (fun j u hj hu => h1 (j + 1) u (by omega) (by simpa using hu)) (fun u hu => h2 u (by simpa using hu))]
    rfl
section
variable {P : SP} {W w w' : World} {R : List SP} {b : Nat} {at_ now aw : Int} {L O : List Tg}
theorem tags_src {A : SP} {a : Option Addr} {n c : Nat} {L : List Tg} (hA : TagsAt A a L) (hn : n = L.length) (o : Own w (A :: R)) : IsSrc w (.slice a n c) 3 n (flat tagC L) := by
  refine ⟨a, c, rfl, by rw [flat_length tagC_len, hn], fun u hu => ?_, ?_⟩
  · obtain ⟨p, _, hp⟩ := List.mem_flatMap.1 hu
    unfold tagC at hp
    simp at hp
    rcases hp with rfl | rfl | rfl <;> rfl
  · cases L with
    | nil => exact .inl hn
    | cons p L' =>
      obtain ⟨g, so, rfl, _, _, _⟩ := hA _ _ o 0 p rfl
      refine .inr ⟨_, rfl, fun j u hu => ?_⟩
      have hadd : (⟨g, so, none⟩ : Addr).add j = ⟨g, so + j, none⟩ := by unfold Addr.add; split <;> simp_all
      rw [hadd]
      have hj : j < (p :: L').length * 3 := by have := (List.getElem?_eq_some_iff.1 hu).1; rwa [flat_length tagC_len] at this
      have hjk : j / 3 < (p :: L').length := by omega
      obtain ⟨t, ht⟩ : ∃ t, (p :: L')[j / 3]? = some t := ⟨_, List.getElem?_eq_getElem hjk⟩
      obtain ⟨g', so', h1, h2, h3, h4⟩ := hA _ _ o (j / 3) t ht
      cases h1
      have h5 := flat_get tagC_len (p :: L') (j / 3) (j % 3) t ht (Nat.mod_lt _ (by omega))
      rw [show j / 3 * 3 + j % 3 = j from by omega, hu] at h5
      have hm : j % 3 = 0 ∨ j % 3 = 1 ∨ j % 3 = 2 := by omega
      rcases hm with hm | hm | hm
      · rw [hm] at h5
        rw [show so + j = so + j / 3 * 3 from by omega, h2, h5]; rfl
      · rw [hm] at h5
        rw [show so + j = so + j / 3 * 3 + 1 from by omega, h3, h5]; rfl
      · rw [hm] at h5
        rw [show so + j = so + j / 3 * 3 + 2 from by omega, h4, h5]; rfl
theorem tags_cut {A : SP} {g so : Nat} {i k c : Nat} {L : List Tg} (hA : TagsAt A (some ⟨g, so, none⟩) L) (hik : i + k ≤ L.length) (o : Own w (A :: R)) :
    IsSrc w (.slice (some ⟨g, so + i * 3, none⟩) k c) 3 k (flat tagC ((L.drop i).take k)) := by
  have hl : ((L.drop i).take k).length = k := by rw [List.length_take, List.length_drop]; omega
  have hB : TagsAt A (some ⟨g, so + i * 3, none⟩) ((L.drop i).take k) := fun w R o j y hy => by
    have hj := (List.getElem?_eq_some_iff.1 hy).1
    rw [hl] at hj
    have hy2 : L[i + j]? = some y := by rw [List.getElem?_take, if_pos hj, List.getElem?_drop] at hy; exact hy
    obtain ⟨g', so', h1, h2, h3, h4⟩ := hA w R o (i + j) y hy2
    cases h1
    refine ⟨g, so + i * 3, rfl, ?_, ?_, ?_⟩
    · rw [← h2]; congr 2; omega
    · rw [← h3]; congr 2; omega
    · rw [← h4]; congr 2; omega
  exact tags_src hB hl.symm o

def JR1 (P : SP) (b xb : Nat) (f wt : Int) (at_ : Int) (L O : List Tg) (now aw : Int) (R : List SP) (w : World) (v8 v9 : Value) (wr : World) : Prop :=
  ∃ (i : Nat) (a : Option Addr) (c : Nat), v8 = .slice a (delT f (O.take i)).length c ∧ v9 = .int .i64 (i : Int) ∧ i ≤ O.length ∧
    Own wr (slc 64 3 a (delT f (O.take i)).length c (flat tagC (delT f (O.take i))) :: cel xb 64 [.int .i64 f, .int .i64 wt, .int .i64 (max now (oldM f (O.take i)))] :: RefT P b at_ L O now aw :: P :: R) ∧ Calm w wr
def JR2 (P : SP) (b xb : Nat) (x : Tg) (at_ : Int) (L O2 : List Tg) (a8 : Option Addr) (c8 : Nat) (a : Option Addr) (c : Nat) (now aw : Int) (R : List SP) (w : World) (fin : Bool) (v10 : Value) (wr : World) : Prop :=
  ∃ (k : Nat), v10 = .int .i64 (k : Int) ∧ k ≤ L.length ∧ (∀ (j : Nat) (t : Tg), j < k → L[j]? = some t → t.f < x.f) ∧ (fin = true → ∀ t : Tg, L[k]? = some t → ¬ t.f < x.f) ∧
    Own wr (cel b 103 [.int .i64 at_, .slice a L.length c, .slice a8 O2.length c8, .int .i64 now, .int .i64 aw] :: slc 64 3 a8 O2.length c8 (flat tagC O2) :: cel xb 64 [.int .i64 x.f, .int .i64 x.w, .int .i64 x.s] :: P :: R) ∧ Calm w wr
def JoinT (b : Nat) (at_ : Int) (L O : List Tg) (now aw : Int) (P : SP) (R : List SP) (w : World) (e : Ending) (w' : World) : Prop :=
  ∃ P', PExtT P P' ∧ Ret (.int .i64 0) (RefT P' b at_ L O now aw :: P' :: R) w e w'
theorem delT_len (f : Int) (L : List Tg) : (delT f L).length ≤ L.length := List.length_filter_le _ _
theorem take_snoc {α : Type} {L : List α} {i : Nat} {x : α} (h : L[i]? = some x) : L.take (i + 1) = L.take i ++ [x] := by rw [List.take_add_one, h]; rfl
theorem delT_snoc (f : Int) (L : List Tg) (t : Tg) : delT f (L ++ [t]) = if t.f = f then delT f L else delT f L ++ [t] := by
  unfold delT
  rw [List.filter_append]
  split
  · rename_i h; rw [List.filter_cons_of_neg (by simp [h])]; simp
  · rename_i h; rw [List.filter_cons_of_pos (by simp [h])]; simp

theorem joinT_end {P : SP} {w8 : World} {R : List SP} {b xb nb : Nat} {at_ now aw : Int} {L2 O2 : List Tg} {a8 a9 a0 : Option Addr} {n9 c8 c9 n0 c0 : Nat} {v0 v1 v2 : Value} {es : List Value} {xs : List Value} (hL2 : xs = flat tagC L2) (hn : n9 = L2.length)
    (o : Own w8 (slc 64 3 a9 n9 c9 xs :: SP.blk nb (.cells es.toArray 64 (0, 0)) :: cel b 103 [.int .i64 at_, .slice a0 n0 c0, .slice a8 O2.length c8, .int .i64 now, .int .i64 aw] :: slc 64 3 a8 O2.length c8 (flat tagC O2) :: cel xb 64 [v0, v1, v2] :: P :: R)) :
    Own (w8.setCell ⟨b, 1, none⟩ (.slice a9 n9 c9)) (RefT (st [slc 64 3 a9 n9 c9 xs, st [slc 64 3 a8 O2.length c8 (flat tagC O2), P]]) b at_ L2 O2 now aw :: st [slc 64 3 a9 n9 c9 xs, st [slc 64 3 a8 O2.length c8 (flat tagC O2), P]] :: R) := by
  subst hL2
  subst hn
  have h1 := slOk_slc o
  have h2 := slOk_slc (o.up 3)
  have n1 := o.slc_len.2.1
  have n2 := (o.up 3).slc_len.2.1
  have oA := ((o.up 2).setCell 1 (.slice a9 L2.length c9)).re [2, 4, 1, 3, 5, 0] 2
  have oB : Own (w8.setCell ⟨b, 1, none⟩ (.slice a9 L2.length c9)) (st [slc 64 3 a8 O2.length c8 (flat tagC O2), P] :: _) := Own.st.2 (oA.re [1, 2, 0, 3])
  have oC : Own (w8.setCell ⟨b, 1, none⟩ (.slice a9 L2.length c9)) (st [slc 64 3 a9 L2.length c9 (flat tagC L2), st [slc 64 3 a8 O2.length c8 (flat tagC O2), P]] :: _) := Own.st.2 (oB.re [1, 0, 2])
  exact RefT.iff.2 ⟨a9, c9, a8, c8, ⟨⟨(tagsAt_slc _ _ _ _ rfl).new, h1⟩, n1, ⟨PExtT.add _ _ _ _ (tagsAt_slc _ _ _ _ rfl).new, h2⟩, n2⟩, oC.swap⟩
set_option maxHeartbeats 6400000 in
set_option maxRecDepth 100000 in
theorem joinT_spec (f wt : Int) (hf : 0 ≤ f ∧ f < 32) (hw : 1 ≤ wt ∧ wt ≤ 16) (hn : fget L f = none) (hL : L.length ≤ 1000) (hO : O.length ≤ 1000) (hr : ∀ t ∈ O, 0 ≤ t.s ∧ t.s ≤ 1099511627776) (h0 : 0 ≤ now ∧ now ≤ 1099511627776) (o : Own w (RefT P b at_ L O now aw :: P :: R)) :
    Calls Try.prog 60 #[.pointer (some ⟨b, 0, none⟩), .int .i64 f, .int .i64 wt] w (JoinT b at_ (insT ⟨f, wt, max now (oldM f O)⟩ L) (delT f O) now aw P R w) := by
  have hat := index_spec f hL o
  rw [idxT_none 0 L hn] at hat
  have hgw := goodW_spec wt w
  have hdw : decide (1 ≤ wt ∧ wt ≤ 16) = true := by simp; exact hw
  rw [hdw] at hgw
  obtain ⟨a, c, a2, c2, ⟨⟨hP1, hs1⟩, hc1, ⟨hP2, hs2⟩, hc2⟩, o1⟩ := RefT.iff.1 o
  have d3 := o1.cell 3
  have hlt := o1.celLt
  obtain ⟨hf0, hf1⟩ := hf
  clear hdw hn hw
  have hT : JR1 P b w.heap.size f wt at_ L O now aw R w (.slice none 0 0) (.int .i64 0) (w.alloc (.cells #[.int .i64 f, .int .i64 wt, .int .i64 now] 64)) :=
    ⟨0, none, 0, rfl, rfl, by omega, by
      have := (o.alloc (.cells #[.int .i64 f, .int .i64 wt, .int .i64 now] 64)).slc_nil (e := 64) (size := 3)
      have e : max now (oldM f (O.take 0)) = now := by show max now 0 = now; omega
      rw [e]; exact this, ⟨rfl, rfl, rfl⟩⟩
  go_enter Try.func60, Try.ntmps60
  go_wp2_with fail
  refine hgw.mono ?_
  rintro e1 w1 ⟨rfl, rfl⟩
  go_wp2_with fail
  refine hat.mono ?_
  rintro e2 w2 ⟨rfl, rfl⟩
  go_wp2
  go_loopw [8, 9] (fun v8 v9 wr => JR1 P b w.heap.size f wt at_ L O now aw R w v8 v9 wr) (fun _ v9 _ => O.length - (intOf v9).toNat)
  case atStart => exact hT
  case round =>
    clear hT hgw hat d3 o1 o
    obtain ⟨i, a8, c8, rfl, rfl, hi, oR, kR⟩ := hrel
    obtain ⟨a, c, a2, c2, ⟨⟨hP1, hs1⟩, hc1, ⟨hP2, hs2⟩, hc2⟩, o1⟩ := RefT.iff.1 (oR.up 2)
    have e1 := o1.cell 1
    have e2 := o1.cell 2
    have el := o1.celLt
    have ef := o1.frozen
    have x0 := (o1.up 2).cell 0
    have x1 := (o1.up 2).cell 1
    have x2 := (o1.up 2).cell 2
    have xl := (o1.up 2).celLt
    have xf := (o1.up 2).frozen
    by_cases hio : i < O.length
    · obtain ⟨⟨y0, y1, y2⟩, hy⟩ : ∃ y, O[i]? = some y := ⟨_, List.getElem?_eq_getElem hio⟩
      obtain ⟨g, so, hg, d0, d1, d2⟩ := hP2 _ _ (o1.up 3) i _ hy
      subst hg
      dsimp only at d0 d1 d2
      have hts := take_snoc hy
      have HTS := Lib.hid hts
      clear hts hy
      by_cases he : y0 = f
      · subst he
        have hmx : max (max now (oldM y0 (O.take i))) y2 = max now (oldM y0 (O.take (i + 1))) := by
          rw [HTS.out, oldM_snoc, if_pos rfl]
          show max (max now _) y2 = max now (max _ y2)
          omega
        have hdl : delT y0 (O.take (i + 1)) = delT y0 (O.take i) := by rw [HTS.out, delT_snoc, if_pos rfl]
        have HDL := Lib.hid hdl
        clear hdl
        go_wp2
        refine wp_region_tail 10 (by kernel_rfl) (by kernel_rfl) ?_
        simp only [List.take_succ_cons, List.take_zero, List.drop_succ_cons, List.drop_zero]
        repeat still_step
        refine wpStill_nil ?_
        go_wp2
        go_roundw
        case rel =>
          refine ⟨i + 1, a8, c8, by rw [HDL.out], by go_num, by omega, ?_, kR.trans ⟨rfl, rfl, rfl⟩⟩
          rw [HDL.out, ← hmx]
          have oX := ((oR.drew.up 1).setCell 2 (.int .i64 (max (max now (oldM y0 (O.take i))) y2))).swap
          exact oX
        case measure => simp [intOf]; omega
      · have heb : (y0 == f) = false := by simpa using he
        have hdl : delT f (O.take (i + 1)) = delT f (O.take i) ++ [⟨y0, y1, y2⟩] := by rw [HTS.out, delT_snoc, if_neg he]
        have hom : oldM f (O.take (i + 1)) = oldM f (O.take i) := by rw [HTS.out, oldM_snoc, if_neg he]
        have hdn : (delT f (O.take i)).length ≤ 1000 := by have := delT_len f (O.take i); rw [List.length_take] at this; omega
        have HDL := Lib.hid hdl
        have HOM := Lib.hid hom
        clear hdl hom
        obtain ⟨Dl, hDl⟩ : ∃ Dl, Dl = delT f (O.take i) := ⟨_, rfl⟩
        rw [← hDl] at oR hdn
        have HDl := Lib.hid hDl
        rw [← hDl]
        clear hDl
        have oN := (oR.alloc (.cells #[.int .i64 y0, .int .i64 y1, .int .i64 y2] 64)).re [1, 0, 2, 3, 4]
        have hnw := Own.news (T := 64) (vs := [.int .i64 y0, .int .i64 y1, .int .i64 y2]) (oR.alloc _)
        go_wp2_with (at_builtin; refine wpList_append_slc rfl _ _ rfl Try.tagT rfl oN ⟨wr.heap.size, 0, none⟩ 1 1 [.int .i64 y0, .int .i64 y1, .int .i64 y2] rfl rfl hnw (by intro u hu; simp at hu; rcases hu with rfl | rfl | rfl <;> rfl) (by unfold maxLen; omega) (by omega) ?k2)
        case k2 =>
        intro a7 c7 w7 o7 k7
        have hfl : flat tagC (delT f (O.take (i + 1))) = flat tagC Dl ++ [.int .i64 y0, .int .i64 y1, .int .i64 y2] := by rw [HDL.out, ← HDl.out, flat_append]; rfl
        have hln : (delT f (O.take (i + 1))).length = Dl.length + 1 := by rw [HDL.out, ← HDl.out, List.length_append, List.length_singleton]
        have HFL := Lib.hid hfl
        have HLN := Lib.hid hln
        clear hfl hln
        go_wp2
        go_roundw
        case rel => exact ⟨i + 1, a7, c7, by rw [HLN.out], by go_num, by omega, by rw [HLN.out, HFL.out, HOM.out]; exact o7.re [1, 0, 2, 3, 4] 1, kR.trans k7.al⟩
        case measure => simp [intOf]; omega
    · obtain rfl : i = O.length := by omega
      rw [List.take_length] at oR o1 x2
      obtain ⟨O2, hO2⟩ : ∃ O2, O2 = delT f O := ⟨_, rfl⟩
      obtain ⟨xs, hxs⟩ : ∃ xs, xs = max now (oldM f O) := ⟨_, rfl⟩
      have hO2l : O2.length ≤ 1000 := by have := delT_len f O; rw [hO2]; omega
      rw [List.take_length, ← hO2, ← hxs]
      rw [← hO2, ← hxs] at o1
      rw [← hxs] at x2
      have HO2 := Lib.hid hO2
      have HXS := Lib.hid hxs
      clear hO2 hxs oR
      have oB : Own (wr.setCell ⟨b, 2, none⟩ (.slice a8 O2.length c8)) (cel b 103 [.int .i64 at_, .slice a L.length c, .slice a8 O2.length c8, .int .i64 now, .int .i64 aw] :: _) := o1.setCell 2 (.slice a8 O2.length c8)
      have kB : Calm w (wr.setCell ⟨b, 2, none⟩ (.slice a8 O2.length c8)) := kR.trans ⟨rfl, rfl, rfl⟩
      clear o1
      go_upto_block 2 with fail
      go_cut [10] (fun v10 wc => JR2 P b w.heap.size ⟨f, wt, xs⟩ at_ L O2 a8 c8 a c now aw R w true v10 wc)
      case first =>
        go_wp2
        go_loopw [10] (fun v10 wc => JR2 P b w.heap.size ⟨f, wt, xs⟩ at_ L O2 a8 c8 a c now aw R w false v10 wc) (fun v _ => L.length - (intOf v).toNat)
        case atStart => exact ⟨0, rfl, by omega, fun j t hj => by omega, fun h => (by cases h), oB, kB⟩
        case round =>
          clear oB kB e1 e2 el ef x0 x1 x2 xl xf hP2 hs2 hc2
          obtain ⟨k, rfl, hk, hlk, -, oK, kK⟩ := hrel
          have e1 := oK.cell 1
          by_cases hkl : k < L.length
          · obtain ⟨⟨y0, y1, y2⟩, hy⟩ : ∃ y, L[k]? = some y := ⟨_, List.getElem?_eq_getElem hkl⟩
            obtain ⟨g, so, hg, d0, d1, d2⟩ := hP1 _ _ (oK.up 3) k _ hy
            subst hg
            have HY := Lib.hid hy
            clear hy
            dsimp only at d0 d1 d2
            by_cases hl : y0 < f
            · go_wp2
              go_roundw
              case rel =>
                refine ⟨k + 1, by go_num, by omega, fun j t hj ht => ?_, fun h => (by cases h), oK, kK⟩
                by_cases hjk : j = k
                · subst hjk; rw [HY.out] at ht; cases ht; exact hl
                · exact hlk j t (by omega) ht
              case measure => simp [intOf]; omega
            · go_wp2
              go_meet
              exact ⟨k, rfl, hk, hlk, fun _ t ht => by rw [HY.out] at ht; cases ht; show ¬ y0 < f; omega, oK, kK⟩
          · go_wp2
            go_meet
            exact ⟨k, rfl, hk, hlk, fun _ t ht => by have := (List.getElem?_eq_some_iff.1 ht).1; omega, oK, kK⟩
      case rest =>
        clear oB kB e1 e2 el ef x0 x1 x2 xl xf hP2 hs2 hc2
        obtain ⟨k, rfl, hk, hlk, hfin, oK, kK⟩ := hcut
        have hins := insT_split ⟨f, wt, xs⟩ k L hk hlk (hfin rfl)
        have HI := Lib.hid hins
        clear hins hlk hfin
        have e1 := oK.cell 1
        have el := oK.celLt
        have x0 := (oK.up 2).cell 0
        have x1 := (oK.up 2).cell 1
        have x2 := (oK.up 2).cell 2
        have xl := (oK.up 2).celLt
        have oZ := slc_zero (e := 64) (size := 3) ((oK.alloc (.cells #[] 64)))
        have src0 : ∀ (w : World) (a : Option Addr) (c' : Nat), IsSrc w (.slice a 0 c') 3 0 [] := fun w a c' => ⟨a, c', rfl, by simp, by simp, .inl rfl⟩
        have SRC := Lib.hid src0
        clear src0
        rcases hs1 with ⟨rfl, rfl⟩ | ⟨g, rfl⟩
        · obtain rfl : L = [] := List.eq_nil_of_length_eq_zero (by omega)
          obtain rfl : k = 0 := by simpa using hk
          go_wp2_with (at_builtin; refine wpList_append_src rfl _ _ rfl Try.tagT rfl oZ rfl (SRC.out _ _ _) (by unfold maxLen; omega) (by omega) ?k1)
          case k1 =>
          intro a5 c5 w5 o5 k5
          have q2 := (o5.up 1).cell 1
          have x0 := (o5.up 3).cell 0
          have x1 := (o5.up 3).cell 1
          have x2 := (o5.up 3).cell 2
          have oN := (o5.alloc (.cells #[.int .i64 f, .int .i64 wt, .int .i64 xs] 64)).re [1, 0, 2, 3, 4, 5]
          have hnw := Own.news (T := 64) (vs := [.int .i64 f, .int .i64 wt, .int .i64 xs]) (o5.alloc _)
          go_wp2_with (at_builtin; refine wpList_append_slc rfl _ _ rfl Try.tagT rfl oN ⟨w5.heap.size, 0, none⟩ 1 1 [.int .i64 f, .int .i64 wt, .int .i64 xs] rfl rfl hnw (by intro u hu; simp at hu; rcases hu with rfl | rfl | rfl <;> rfl) (by unfold maxLen; omega) (by omega) ?k2)
          case k2 =>
          intro a7 c7 w7 o7 k7
          have q7 := (o7.up 2).cell 1
          have ql7 := (o7.up 2).celLt
          go_wp2_with (at_builtin; refine wpList_append_src rfl _ _ rfl Try.tagT rfl o7 rfl (SRC.out _ _ _) (by unfold maxLen; omega) (by omega) ?k3)
          case k3 =>
          intro a9 c9 w9 o9 k9
          have q9 := (o9.up 2).cell 1
          have qf9 := (o9.up 2).frozen
          have ql9 := (o9.up 2).celLt
          have oE := joinT_end (L2 := insT ⟨f, wt, xs⟩ []) (by rw [HI.out]; rfl) (by rw [HI.out]; rfl) o9
          rw [HO2.out, HXS.out] at oE
          go_wp2
          go_ret
          exact ⟨_, PExtT.trans (PExtT.add _ _) (PExtT.add _ _), rfl, oE, kK.trans (Calm.trans ⟨k5.os, k5.tape, k5.output⟩ (k7.al.trans (k9.trans ⟨rfl, rfl, rfl⟩)))⟩
        · have b0 : (0 : Int) ≤ (k : Int) := by omega
          have b1 : (k : Int) ≤ (c : Int) := by omega
          have b1' : k ≤ c := by omega
          have b2 : (k : Int) ≤ (L.length : Int) := by omega
          have s1 := tags_cut (i := 0) (k := k) (c := c) hP1 (by omega) (oZ.up 4)
          rw [Nat.zero_mul, Nat.add_zero, List.drop_zero] at s1
          by_cases hkc : k = c
          · subst hkc
            have hkL : L.length = k := by omega
            have hdz : L.drop k = [] := List.drop_eq_nil_of_le (by omega)
            have HDZ := Lib.hid hdz
            have z0 : L.length - k = 0 := by omega
            have z1 : (L.length : Int) ≤ (k : Int) := by omega
            have HKL := Lib.hid hkL
            clear hdz hkL
            go_wp2_with (at_builtin; refine wpList_append_src rfl _ _ rfl Try.tagT rfl oZ rfl s1 (by unfold maxLen; omega) (by omega) ?k1)
            case k1 =>
            intro a5 c5 w5 o5 k5
            have q2 := (o5.up 1).cell 1
            have x0 := (o5.up 3).cell 0
            have x1 := (o5.up 3).cell 1
            have x2 := (o5.up 3).cell 2
            have oN := (o5.alloc (.cells #[.int .i64 f, .int .i64 wt, .int .i64 xs] 64)).re [1, 0, 2, 3, 4, 5]
            have hnw := Own.news (T := 64) (vs := [.int .i64 f, .int .i64 wt, .int .i64 xs]) (o5.alloc _)
            go_wp2_with (at_builtin; refine wpList_append_slc rfl _ _ rfl Try.tagT rfl oN ⟨w5.heap.size, 0, none⟩ 1 1 [.int .i64 f, .int .i64 wt, .int .i64 xs] rfl rfl hnw (by intro u hu; simp at hu; rcases hu with rfl | rfl | rfl <;> rfl) (by unfold maxLen; omega) (by omega) ?k2)
            case k2 =>
            intro a7 c7 w7 o7 k7
            have q7 := (o7.up 2).cell 1
            have ql7 := (o7.up 2).celLt
            go_wp2_with (at_builtin; refine wpList_append_src rfl _ _ rfl Try.tagT rfl o7 rfl (SRC.out _ _ _) (by unfold maxLen; omega) (by omega) ?k3)
            case k3 =>
            intro a9 c9 w9 o9 k9
            have q9 := (o9.up 2).cell 1
            have qf9 := (o9.up 2).frozen
            have ql9 := (o9.up 2).celLt
            have oE := joinT_end (L2 := insT ⟨f, wt, xs⟩ L) (by rw [HI.out]; rw [HDZ.out, List.append_nil, flat_append]; rfl) (by rw [HI.out]; rw [HDZ.out, List.append_nil, List.length_append, List.length_take, HKL.out]; simp) o9
            rw [HO2.out, HXS.out] at oE
            go_wp2
            go_ret
            exact ⟨_, PExtT.trans (PExtT.add _ _) (PExtT.add _ _), rfl, oE, kK.trans (Calm.trans ⟨k5.os, k5.tape, k5.output⟩ (k7.al.trans (k9.trans ⟨rfl, rfl, rfl⟩)))⟩
          · have hkc1 : ((k : Int) == (c : Int)) = false := by rw [beq_eq_false_iff_ne]; omega
            have hkc2 : ¬ c = k := by omega
            have hkc3 : ¬ k = c := hkc
            have hdr : (L.drop k).take (L.length - k) = L.drop k := List.take_of_length_le (by rw [List.length_drop]; omega)
            have HDR := Lib.hid hdr
            clear hdr
            go_wp2_with (at_builtin; refine wpList_append_src rfl _ _ rfl Try.tagT rfl oZ rfl s1 (by unfold maxLen; omega) (by omega) ?k1)
            case k1 =>
            intro a5 c5 w5 o5 k5
            have q2 := (o5.up 1).cell 1
            have x0 := (o5.up 3).cell 0
            have x1 := (o5.up 3).cell 1
            have x2 := (o5.up 3).cell 2
            have oN := (o5.alloc (.cells #[.int .i64 f, .int .i64 wt, .int .i64 xs] 64)).re [1, 0, 2, 3, 4, 5]
            have hnw := Own.news (T := 64) (vs := [.int .i64 f, .int .i64 wt, .int .i64 xs]) (o5.alloc _)
            go_wp2_with (at_builtin; refine wpList_append_slc rfl _ _ rfl Try.tagT rfl oN ⟨w5.heap.size, 0, none⟩ 1 1 [.int .i64 f, .int .i64 wt, .int .i64 xs] rfl rfl hnw (by intro u hu; simp at hu; rcases hu with rfl | rfl | rfl <;> rfl) (by unfold maxLen; omega) (by omega) ?k2)
            case k2 =>
            intro a7 c7 w7 o7 k7
            have q7 := (o7.up 2).cell 1
            have ql7 := (o7.up 2).celLt
            have s2 := tags_cut (i := k) (k := L.length - k) (c := c - k) hP1 (by omega) (o7.up 5)
            rw [HDR.out, Nat.zero_add] at s2
            go_wp2_with (at_builtin; refine wpList_append_src rfl _ _ rfl Try.tagT rfl o7 rfl s2 (by unfold maxLen; omega) (by omega) ?k3)
            case k3 =>
            intro a9 c9 w9 o9 k9
            have q9 := (o9.up 2).cell 1
            have qf9 := (o9.up 2).frozen
            have ql9 := (o9.up 2).celLt
            have oE := joinT_end (L2 := insT ⟨f, wt, xs⟩ L) (by rw [HI.out]; rw [flat_append, flat_append]; simp [flat, tagC]) (by rw [HI.out]; rw [List.length_append, List.length_append, List.length_take, List.length_drop]; simp; omega) o9
            rw [HO2.out, HXS.out] at oE
            go_wp2
            go_ret
            exact ⟨_, PExtT.trans (PExtT.add _ _) (PExtT.add _ _), rfl, oE, kK.trans (Calm.trans ⟨k5.os, k5.tape, k5.output⟩ (k7.al.trans (k9.trans ⟨rfl, rfl, rfl⟩)))⟩
end
end Go.Proofs.Ytnandakoigmknaa
