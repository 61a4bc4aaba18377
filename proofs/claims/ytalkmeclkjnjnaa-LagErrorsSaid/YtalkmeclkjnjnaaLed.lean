/- The reference's ledger: its list in a pool; At, Join, SetWeight. -/
import Derived.Test.YtalkmeclkjnjnaaTgS
import Derived.Test.YtalkmeclkjnjnaaLagP
import Derived.Test.YtalkmeclkjnjnaaLagM
import Derived.Deep.RegionLaw
import Derived.Deep.DeepCutAuto
import Derived.Deep.CutBlock
namespace Go.Proofs.Ytalkmeclkjnjnaa
open Go.RowKit
open SP

theorem Try.lineT : ElemT Try.prog 46 70 3 24 := ElemT.mk' (z := .agg #[.int .i64 0, .int .i64 0, .int .i64 0]) Try.underlying46 (by kernel_rfl) rfl (by decide)
/-- The block of a ledger; its list lies in the pool P. -/
def LedR (P : SP) (b : Nat) (L : List Tg) : SP := ex fun (p : Option Addr × Nat) =>
  st [pu ((TagsAt P p.1 L ∧ SlOk p.1 p.2) ∧ L.length ≤ p.2), cel b 48 [.slice p.1 L.length p.2]]
section
variable {P W' : SP} {W w w' : World} {R : List SP} {b : Nat} {L : List Tg}
theorem LedR.iff : Own w (LedR P b L :: R) ↔ ∃ a c, ((TagsAt P a L ∧ SlOk a c) ∧ L.length ≤ c) ∧ Own w (cel b 48 [.slice a L.length c] :: R) := by
  constructor
  · intro o
    obtain ⟨⟨a, c⟩, h⟩ := Own.ex.1 o
    obtain ⟨h1, h2⟩ := Own.pu.1 (Own.st.1 h)
    exact ⟨a, c, h1, h2⟩
  · rintro ⟨a, c, h1, h2⟩
    exact Own.ex.2 ⟨(a, c), Own.st.2 (Own.pu.2 ⟨h1, h2⟩)⟩
theorem LedR.mono {P' : SP} (h : PExtT P P') (o : Own w (LedR P b L :: R)) : Own w (LedR P' b L :: R) := by
  obtain ⟨a, c, ⟨h1, h2⟩, h5⟩ := LedR.iff.1 o
  exact LedR.iff.2 ⟨a, c, ⟨⟨h _ _ h1.1, h1.2⟩, h2⟩, h5⟩
theorem LedR.start (o : Own w (cel b 48 [.slice none 0 0] :: R)) : Own w (LedR P b [] :: R) :=
  LedR.iff.2 ⟨none, 0, ⟨⟨tagsAt_nil _ _, .inl ⟨rfl, rfl⟩⟩, Nat.le_refl _⟩, o⟩
def LAtRel (L : List Tg) (f T : Int) (w : World) (v : Value) (wr : World) : Prop := ∃ i : Nat, v = .int .i64 (i : Int) ∧ i ≤ L.length ∧ idxT f i (L.drop i) = T ∧ wr = w
set_option maxHeartbeats 800000 in
set_option maxRecDepth 100000 in
theorem ledAt_spec (f : Int) (hL : L.length ≤ 1000) (o : Own w (LedR P b L :: P :: R)) :
    Calls Try.prog 36 #[.pointer (some ⟨b, 0, none⟩), .int .i64 f] w (IsRet (.int .i64 (idxT f 0 L)) w) := by
  obtain ⟨a, c, ⟨⟨hP, -⟩, hc⟩, o1⟩ := LedR.iff.1 o
  have c1 := o1.cell 0
  have hT : LAtRel L f (idxT f 0 L) w (.int .i64 0) w := ⟨0, rfl, by omega, rfl, rfl⟩
  generalize idxT f 0 L = T at *
  generalize hn : L.length = n at *
  have Hn := Lib.hid hn
  clear hn
  go_enter Try.func36, Try.ntmps36
  go_wp2
  go_loopw [5] (fun v wr => LAtRel L f T w v wr) (fun v _ => n - (ivOf v).toNat)
  case atStart => exact hT
  case round =>
    clear hT
    obtain ⟨i, rfl, hi, hE, rfl⟩ := hrel
    rw [Hn.out] at hi
    have HT := Lib.hid hE
    clear hE
    by_cases hlt : i < n
    · obtain ⟨⟨x, y, z⟩, hx⟩ : ∃ x, L[i]? = some x := ⟨_, List.getElem?_eq_getElem (by rw [Hn.out]; exact hlt)⟩
      obtain ⟨g, so, hg, d0, d1, d2⟩ := hP _ _ (o1.up 1) i _ hx
      subst hg
      have HD := Lib.hid (drop_at hx)
      clear hx
      dsimp only at d0 d1 d2
      by_cases he : x = f
      · subst he
        go_wp2
        go_ret
        refine ⟨?_, rfl⟩
        rw [← HT.out, HD.out, idxT, if_pos rfl]; rfl
      · have heb : (x == f) = false := by simpa using he
        go_wp2
        go_roundw
        case rel => exact ⟨i + 1, by go_num, by rw [Hn.out]; omega, by rw [← HT.out, HD.out, idxT, if_neg he], rfl⟩
        case measure => simp [ivOf]; omega
    · go_wp2
      go_ret
      have hin : i = n := by omega
      refine ⟨?_, rfl⟩
      rw [← HT.out, List.drop_eq_nil_of_le (by rw [Hn.out]; omega)]; rfl

/-- A list of the ledger's own goes to the pool. -/
theorem led_new {a9 : Option Addr} {n9 c9 : Nat} {L2 : List Tg} {xs : List Value} (hn : n9 = L2.length) (hx : xs = flat tagC L2)
    (o : Own w (slc 70 3 a9 n9 c9 xs :: cel b 48 [.slice a9 n9 c9] :: P :: R)) :
    Own w (LedR (st [slc 70 3 a9 n9 c9 xs, P]) b L2 :: st [slc 70 3 a9 n9 c9 xs, P] :: R) := by
  subst hn
  subst hx
  have h1 := slOk_slc o
  have n1 := o.slc_len.2.1
  have oC : Own w (st [slc 70 3 a9 L2.length c9 (flat tagC L2), P] :: _) := Own.st.2 (o.re [0, 2, 1])
  exact LedR.iff.2 ⟨a9, c9, ⟨⟨(tagsAt_slc _ _ _ _ rfl).new, h1⟩, n1⟩, oC.swap⟩
def LedPost (v : Value) (b : Nat) (L : List Tg) (P : SP) (R : List SP) (w : World) (e : Ending) (w' : World) : Prop :=
  ∃ P', PExtT P P' ∧ Ret v (LedR P' b L :: P' :: R) w e w'
theorem LedPost.same {v : Value} {e : Ending} (o : Own w (LedR P b L :: P :: R)) (h : IsRet v w e w') : LedPost v b L P R w e w' := by
  obtain ⟨rfl, rfl⟩ := h
  exact ⟨P, PExtT.refl P, rfl, o, Calm.refl w⟩
def LJRel (P : SP) (b : Nat) (f : Int) (L : List Tg) (a : Option Addr) (c : Nat) (R : List SP) (w : World) (fin : Bool) (v10 : Value) (wr : World) : Prop :=
  ∃ (k : Nat), v10 = .int .i64 (k : Int) ∧ k ≤ L.length ∧ (∀ (j : Nat) (t : Tg), j < k → L[j]? = some t → t.f < f) ∧ (fin = true → ∀ t : Tg, L[k]? = some t → ¬ t.f < f) ∧
    Own wr (cel b 48 [.slice a L.length c] :: P :: R) ∧ Calm w wr

theorem ledJoin_end {P : SP} {w8 : World} {R : List SP} {b nb : Nat} {L2 : List Tg} {a9 a0 : Option Addr} {n9 c9 n0 c0 : Nat} {x : Obj} {xs : List Value} (hL2 : xs = flat tagC L2) (hn : n9 = L2.length)
    (o : Own w8 (slc 70 3 a9 n9 c9 xs :: SP.blk nb x :: cel b 48 [.slice a0 n0 c0] :: P :: R)) :
    Own (w8.setCell ⟨b, 0, none⟩ (.slice a9 n9 c9)) (LedR (st [slc 70 3 a9 n9 c9 xs, P]) b L2 :: st [slc 70 3 a9 n9 c9 xs, P] :: R) := by
  have oA := (o.up 2).setCell 0 (.slice a9 n9 c9)
  exact led_new hn hL2 (oA.re [2, 1, 0, 3] 1)
theorem ledJoin_err (f wt er : Int) (hL : L.length ≤ 1000) (he : (f < 0 ∨ 32 ≤ f ∨ wt < 1 ∨ 16 < wt) ∧ er = 1 ∨ ¬ (f < 0 ∨ 32 ≤ f ∨ wt < 1 ∨ 16 < wt) ∧ (fget L f).isSome ∧ er = 7) (o : Own w (LedR P b L :: P :: R)) :
    Calls Try.prog 17 #[.pointer (some ⟨b, 0, none⟩), .int .i64 f, .int .i64 wt] w (IsRet (.int .i64 er) w) := by
  rcases he with ⟨hb, rfl⟩ | ⟨hb, hs, rfl⟩
  · by_cases h1 : f < 0
    · clear hb
      go_enter Try.func17, Try.ntmps17
      go_wp2
      go_ret
      exact ⟨rfl, rfl⟩
    · by_cases h2 : 32 ≤ f
      · clear hb
        go_enter Try.func17, Try.ntmps17
        go_wp2
        go_ret
        exact ⟨rfl, rfl⟩
      · by_cases h3 : wt < 1
        · clear hb
          go_enter Try.func17, Try.ntmps17
          go_wp2
          go_ret
          exact ⟨rfl, rfl⟩
        · have h4 : 16 < wt := by omega
          clear hb
          go_enter Try.func17, Try.ntmps17
          go_wp2
          go_ret
          exact ⟨rfl, rfl⟩
  · obtain ⟨t, ht⟩ := Option.isSome_iff_exists.1 hs
    obtain ⟨i, hi, hai⟩ := idxT_some 0 L ht
    have hat := ledAt_spec f hL o
    rw [hai, Nat.zero_add] at hat
    have h1 : ¬ f < 0 := by omega
    have h2 : ¬ 32 ≤ f := by omega
    have h3 : ¬ wt < 1 := by omega
    have h4 : ¬ 16 < wt := by omega
    clear hb hs ht hai hi
    go_enter Try.func17, Try.ntmps17
    go_wp2_with fail
    refine hat.mono ?_
    rintro e1 w1 ⟨rfl, rfl⟩
    go_wp2
    go_ret
    exact ⟨rfl, rfl⟩

set_option maxHeartbeats 6400000 in
set_option maxRecDepth 100000 in
theorem ledJoin_ok (f wt : Int) (hf : 0 ≤ f ∧ f < 32) (hw : 1 ≤ wt ∧ wt ≤ 16) (hn : fget L f = none) (hL : L.length ≤ 1000) (o : Own w (LedR P b L :: P :: R)) :
    Calls Try.prog 17 #[.pointer (some ⟨b, 0, none⟩), .int .i64 f, .int .i64 wt] w (LedPost (.int .i64 0) b (insT ⟨f, wt, 0⟩ L) P R w) := by
  have hat := ledAt_spec f hL o
  rw [idxT_none 0 L hn] at hat
  obtain ⟨a, c, ⟨⟨hP1, hs1⟩, hc1⟩, o1⟩ := LedR.iff.1 o
  have h1 : ¬ f < 0 := by omega
  have h2 : ¬ 32 ≤ f := by omega
  have h3 : ¬ wt < 1 := by omega
  have h4 : ¬ 16 < wt := by omega
  clear hf hw hn
  go_enter Try.func17, Try.ntmps17
  go_wp2_with fail
  refine hat.mono ?_
  rintro e2 w2 ⟨rfl, rfl⟩
  clear hat h1 h2 h3 h4
  go_upto_block 0 with fail
  go_cut [7] (fun v10 wc => LJRel P b f L a c R w true v10 wc)
  case first =>
    go_wp2
    go_loopw [7] (fun v10 wc => LJRel P b f L a c R w false v10 wc) (fun v _ => L.length - (ivOf v).toNat)
    case atStart => exact ⟨0, rfl, by omega, fun j t hj => by omega, fun h => (by cases h), o1, Calm.refl w⟩
    case round =>
      clear o o1
      obtain ⟨k, rfl, hk, hlk, -, oK, kK⟩ := hrel
      have e1 := oK.cell 0
      by_cases hkl : k < L.length
      · obtain ⟨⟨y0, y1, y2⟩, hy⟩ : ∃ y, L[k]? = some y := ⟨_, List.getElem?_eq_getElem hkl⟩
        obtain ⟨g, so, hg, d0, d1, d2⟩ := hP1 _ _ (oK.up 1) k _ hy
        subst hg
        have HY := Lib.hid hy
        clear hy
        dsimp only at d0 d1 d2
        by_cases hl : y0 < f
        · go_wp2
          go_roundw
          case rel =>
            refine ⟨k + 1, by go_num, by omega, fun j t hj ht => ?_, fun h => (by cases h), oK, kK⟩
            by_cases hjk : j = k
            · subst hjk; rw [HY.out] at ht; cases ht; exact hl
            · exact hlk j t (by omega) ht
          case measure => simp [ivOf]; omega
        · go_wp2
          go_meet
          exact ⟨k, rfl, hk, hlk, fun _ t ht => by rw [HY.out] at ht; cases ht; show ¬ y0 < f; omega, oK, kK⟩
      · go_wp2
        go_meet
        exact ⟨k, rfl, hk, hlk, fun _ t ht => by have := (List.getElem?_eq_some_iff.1 ht).1; omega, oK, kK⟩
  case rest =>
    clear o o1
    obtain ⟨k, rfl, hk, hlk, hfin, oK, kK⟩ := hcut
    have hins := insT_split ⟨f, wt, 0⟩ k L hk hlk (hfin rfl)
    have HI := Lib.hid hins
    clear hins hlk hfin
    have e1 := oK.cell 0
    have el := oK.celLt
    have oZ := slc_zero (e := 70) (size := 3) ((oK.alloc (.cells #[] 70)))
    have src0 : ∀ (w : World) (a : Option Addr) (c' : Nat), IsSrc w (.slice a 0 c') 3 0 [] := fun w a c' => ⟨a, c', rfl, by simp, by simp, .inl rfl⟩
    have SRC := Lib.hid src0
    clear src0
    rcases hs1 with ⟨rfl, rfl⟩ | ⟨g, rfl⟩
    · obtain rfl : L = [] := List.eq_nil_of_length_eq_zero (by omega)
      obtain rfl : k = 0 := by simpa using hk
      go_wp2_with (at_builtin; refine wpList_append_src rfl _ _ rfl Try.lineT rfl oZ rfl (SRC.out _ _ _) (by unfold maxLen; omega) (by omega) ?k1)
      case k1 =>
      intro a5 c5 w5 o5 k5
      have q2 := (o5.up 1).cell 0
      have oN := (o5.alloc (.cells #[.int .i64 f, .int .i64 wt, .int .i64 0] 70)).re [1, 0, 2, 3]
      have hnw := Own.news (T := 70) (vs := [.int .i64 f, .int .i64 wt, .int .i64 0]) (o5.alloc _)
      go_wp2_with (at_builtin; refine wpList_append_slc rfl _ _ rfl Try.lineT rfl oN ⟨w5.heap.size, 0, none⟩ 1 1 [.int .i64 f, .int .i64 wt, .int .i64 0] rfl rfl hnw (by intro u hu; simp at hu; rcases hu with rfl | rfl | rfl <;> rfl) (by unfold maxLen; omega) (by omega) ?k2)
      case k2 =>
      intro a7 c7 w7 o7 k7
      have q7 := (o7.up 2).cell 0
      have ql7 := (o7.up 2).celLt
      go_wp2_with (at_builtin; refine wpList_append_src rfl _ _ rfl Try.lineT rfl o7 rfl (SRC.out _ _ _) (by unfold maxLen; omega) (by omega) ?k3)
      case k3 =>
      intro a9 c9 w9 o9 k9
      have q9 := (o9.up 2).cell 0
      have qf9 := (o9.up 2).frozen
      have ql9 := (o9.up 2).celLt
      have oE := ledJoin_end (L2 := insT ⟨f, wt, 0⟩ []) (by rw [HI.out]; rfl) (by rw [HI.out]; rfl) o9
      go_wp2
      go_ret
      exact ⟨_, PExtT.add _ _, rfl, oE, kK.trans (Calm.trans ⟨k5.os, k5.tape, k5.output⟩ (k7.al.trans (k9.trans ⟨rfl, rfl, rfl⟩)))⟩
    · have b0 : (0 : Int) ≤ (k : Int) := by omega
      have b1 : (k : Int) ≤ (c : Int) := by omega
      have b1' : k ≤ c := by omega
      have b2 : (k : Int) ≤ (L.length : Int) := by omega
      have s1 := tags_cut (i := 0) (k := k) (c := c) hP1 (by omega) (oZ.up 2)
      rw [Nat.zero_mul, Nat.add_zero, List.drop_zero] at s1
      by_cases hkc : k = c
      · subst hkc
        have hkL : L.length = k := by omega
        have hdz : L.drop k = [] := List.drop_eq_nil_of_le (by omega)
        have HDZ := Lib.hid hdz
        have z0 : L.length - k = 0 := by omega
        have z1 : (L.length : Int) ≤ (k : Int) := by omega
        have HKL := Lib.hid hkL
        clear hdz hkL
        go_wp2_with (at_builtin; refine wpList_append_src rfl _ _ rfl Try.lineT rfl oZ rfl s1 (by unfold maxLen; omega) (by omega) ?k1)
        case k1 =>
        intro a5 c5 w5 o5 k5
        have q2 := (o5.up 1).cell 0
        have oN := (o5.alloc (.cells #[.int .i64 f, .int .i64 wt, .int .i64 0] 70)).re [1, 0, 2, 3]
        have hnw := Own.news (T := 70) (vs := [.int .i64 f, .int .i64 wt, .int .i64 0]) (o5.alloc _)
        go_wp2_with (at_builtin; refine wpList_append_slc rfl _ _ rfl Try.lineT rfl oN ⟨w5.heap.size, 0, none⟩ 1 1 [.int .i64 f, .int .i64 wt, .int .i64 0] rfl rfl hnw (by intro u hu; simp at hu; rcases hu with rfl | rfl | rfl <;> rfl) (by unfold maxLen; omega) (by omega) ?k2)
        case k2 =>
        intro a7 c7 w7 o7 k7
        have q7 := (o7.up 2).cell 0
        have ql7 := (o7.up 2).celLt
        go_wp2_with (at_builtin; refine wpList_append_src rfl _ _ rfl Try.lineT rfl o7 rfl (SRC.out _ _ _) (by unfold maxLen; omega) (by omega) ?k3)
        case k3 =>
        intro a9 c9 w9 o9 k9
        have q9 := (o9.up 2).cell 0
        have qf9 := (o9.up 2).frozen
        have ql9 := (o9.up 2).celLt
        have oE := ledJoin_end (L2 := insT ⟨f, wt, 0⟩ L) (by rw [HI.out]; rw [HDZ.out, List.append_nil, flat_append]; rfl) (by rw [HI.out]; rw [HDZ.out, List.append_nil, List.length_append, List.length_take, HKL.out]; simp) o9
        go_wp2
        go_ret
        exact ⟨_, PExtT.add _ _, rfl, oE, kK.trans (Calm.trans ⟨k5.os, k5.tape, k5.output⟩ (k7.al.trans (k9.trans ⟨rfl, rfl, rfl⟩)))⟩
      · have hkc1 : ((k : Int) == (c : Int)) = false := by rw [beq_eq_false_iff_ne]; omega
        have hkc2 : ¬ c = k := by omega
        have hkc3 : ¬ k = c := hkc
        have hdr : (L.drop k).take (L.length - k) = L.drop k := List.take_of_length_le (by rw [List.length_drop]; omega)
        have HDR := Lib.hid hdr
        clear hdr
        go_wp2_with (at_builtin; refine wpList_append_src rfl _ _ rfl Try.lineT rfl oZ rfl s1 (by unfold maxLen; omega) (by omega) ?k1)
        case k1 =>
        intro a5 c5 w5 o5 k5
        have q2 := (o5.up 1).cell 0
        have oN := (o5.alloc (.cells #[.int .i64 f, .int .i64 wt, .int .i64 0] 70)).re [1, 0, 2, 3]
        have hnw := Own.news (T := 70) (vs := [.int .i64 f, .int .i64 wt, .int .i64 0]) (o5.alloc _)
        go_wp2_with (at_builtin; refine wpList_append_slc rfl _ _ rfl Try.lineT rfl oN ⟨w5.heap.size, 0, none⟩ 1 1 [.int .i64 f, .int .i64 wt, .int .i64 0] rfl rfl hnw (by intro u hu; simp at hu; rcases hu with rfl | rfl | rfl <;> rfl) (by unfold maxLen; omega) (by omega) ?k2)
        case k2 =>
        intro a7 c7 w7 o7 k7
        have q7 := (o7.up 2).cell 0
        have ql7 := (o7.up 2).celLt
        have s2 := tags_cut (i := k) (k := L.length - k) (c := c - k) hP1 (by omega) (o7.up 3)
        rw [HDR.out, Nat.zero_add] at s2
        go_wp2_with (at_builtin; refine wpList_append_src rfl _ _ rfl Try.lineT rfl o7 rfl s2 (by unfold maxLen; omega) (by omega) ?k3)
        case k3 =>
        intro a9 c9 w9 o9 k9
        have q9 := (o9.up 2).cell 0
        have qf9 := (o9.up 2).frozen
        have ql9 := (o9.up 2).celLt
        have oE := ledJoin_end (L2 := insT ⟨f, wt, 0⟩ L) (by rw [HI.out]; rw [flat_append, flat_append]; simp [flat, tagC]) (by rw [HI.out]; rw [List.length_append, List.length_append, List.length_take, List.length_drop]; simp; omega) o9
        go_wp2
        go_ret
        exact ⟨_, PExtT.add _ _, rfl, oE, kK.trans (Calm.trans ⟨k5.os, k5.tape, k5.output⟩ (k7.al.trans (k9.trans ⟨rfl, rfl, rfl⟩)))⟩
theorem ledJoin_spec (f wt : Int) (hok : NOk L) (o : Own w (LedR P b L :: P :: R)) :
    Calls Try.prog 17 #[.pointer (some ⟨b, 0, none⟩), .int .i64 f, .int .i64 wt] w (LedPost (.int .i64 (nJoin L f wt).1) b (nJoin L f wt).2 P R w) := by
  have hL := hok.len
  unfold nJoin
  by_cases hb : f < 0 ∨ 32 ≤ f ∨ wt < 1 ∨ 16 < wt
  · rw [if_pos hb]
    exact (ledJoin_err f wt 1 (by omega) (.inl ⟨hb, rfl⟩) o).mono fun e w' h => LedPost.same o h
  · rw [if_neg hb]
    by_cases hs : (fget L f).isSome
    · rw [if_pos hs]
      exact (ledJoin_err f wt 7 (by omega) (.inr ⟨hb, hs, rfl⟩) o).mono fun e w' h => LedPost.same o h
    · rw [if_neg hs]
      exact ledJoin_ok f wt (by omega) (by omega) (by simpa using hs) (by omega) o

set_option maxHeartbeats 3200000 in
set_option maxRecDepth 100000 in
theorem ledSetw_spec (f wt : Int) (hok : NOk L) (o : Own w (LedR P b L :: P :: R)) :
    Calls Try.prog 19 #[.pointer (some ⟨b, 0, none⟩), .int .i64 f, .int .i64 wt] w (LedPost (.int .i64 (nSetw L f wt).1) b (nSetw L f wt).2 P R w) := by
  have hL := hok.len
  have hat := ledAt_spec f (by omega) o
  cases hf : fget L f with
  | none =>
    have e : nSetw L f wt = (6, L) := by unfold nSetw; rw [hf]
    rw [e]; clear e
    rw [idxT_none 0 L hf] at hat
    clear hf
    go_enter Try.func19, Try.ntmps19
    go_wp2_with fail
    refine hat.mono ?_
    rintro e1 w1 ⟨rfl, rfl⟩
    go_wp2
    go_ret
    exact LedPost.same o ⟨rfl, rfl⟩
  | some t =>
    obtain ⟨i, hi, hai⟩ := idxT_some 0 L hf
    rw [hai, Nat.zero_add] at hat
    obtain ⟨-, rfl⟩ := fget_some hf
    by_cases hbad : wt < 1 ∨ 16 < wt
    · have e : nSetw L t.f wt = (1, L) := by unfold nSetw; rw [hf]; simp only; rw [if_pos hbad]
      rw [e]; clear e hf hi hai
      by_cases h1 : wt < 1
      · clear hbad
        go_enter Try.func19, Try.ntmps19
        go_wp2_with fail
        refine hat.mono ?_
        rintro e1 w1 ⟨rfl, rfl⟩
        go_wp2
        go_ret
        exact LedPost.same o ⟨rfl, rfl⟩
      · have h2 : 16 < wt := by omega
        clear hbad
        go_enter Try.func19, Try.ntmps19
        go_wp2_with fail
        refine hat.mono ?_
        rintro e1 w1 ⟨rfl, rfl⟩
        go_wp2
        go_ret
        exact LedPost.same o ⟨rfl, rfl⟩
    · have e : nSetw L t.f wt = (0, setT ⟨t.f, wt, t.s⟩ L) := by unfold nSetw; rw [hf]; simp only; rw [if_neg hbad]
      rw [e]; clear e
      have h1 : ¬ wt < 1 := by omega
      have h2 : ¬ 16 < wt := by omega
      have hil := (List.getElem?_eq_some_iff.1 hi).1
      have hset := setT_atP (x := ⟨t.f, wt, t.s⟩) hok.asc hi rfl
      have hfs := flat_set tagC_len L i 1 t ⟨t.f, wt, t.s⟩ (.int .i64 wt) hi (by omega) rfl
      have HS := Lib.hid hset
      have HF := Lib.hid hfs
      obtain ⟨a, c, ⟨⟨hP, hs⟩, hc⟩, o1⟩ := LedR.iff.1 o
      have c1 := o1.cell 0
      have cl := o1.celLt
      have cf := o1.frozen
      have oZ := slc_zero (e := 70) (size := 3) ((o1.alloc (.cells #[] 70)))
      have hsrc := tags_src (c := c) hP rfl (oZ.up 2)
      have hfg := flat_get tagC_len L i 1 t hi (by omega)
      have HFG := Lib.hid hfg
      clear hf hai hi hset hfs hfg hbad
      go_enter Try.func19, Try.ntmps19
      go_wp2_with fail
      refine hat.mono ?_
      rintro e1 w1 ⟨rfl, rfl⟩
      go_wp2_with (at_builtin; refine wpList_append_src rfl _ _ rfl Try.lineT rfl oZ rfl hsrc (by unfold maxLen; omega) (by omega) ?k1)
      case k1 =>
      intro a5 c5 w5 o5 k5
      have o5z := o5
      have q1 := (o5z.up 1).cell 0
      have ql := (o5z.up 1).celLt
      have qf := (o5z.up 1).frozen
      have oS := ((o5z.up 1).setCell 0 (.slice a5 L.length c5))
      have s1 := oS.cell 0
      rcases Own.slc.1 (oS.up 1) with ⟨_, hz, _⟩ | ⟨g, sp, rfl, _, hcm, _, _, _⟩
      · omega
      · obtain ⟨g', hg', hc', hf', hl'⟩ := (oS.up 1).slc_cell (by omega)
        cases hg'
        have d1 := hc' (i * 3 + 1) _ HFG.out
        have df := hf'
        have o7 := (oS.up 1).slc_set (i * 3 + 1) (.int .i64 wt) (by rw [flat_length tagC_len]; omega)
        rw [← HF.out, HS.out] at o7
        have hlen : L.length = (setT ⟨t.f, wt, t.s⟩ L).length := by rw [← HS.out, List.length_set]
        have oE := led_new (L2 := setT ⟨t.f, wt, t.s⟩ L) hlen rfl o7
        clear hlen
        go_wp2
        go_ret
        exact ⟨_, PExtT.add _ _, rfl, oE, Calm.trans ⟨k5.os, k5.tape, k5.output⟩ ⟨rfl, rfl, rfl⟩⟩
end
end Go.Proofs.Ytalkmeclkjnjnaa
