/- CompScript: the walk of 'act'. -/
import Derived.Test.YtnandakoigmknaaCsW
import Derived.Deep.DeepCutAuto
import Derived.Deep.CutBlock
import Derived.Deep.RegionWith
namespace Go.Proofs.Ytnandakoigmknaa
open Go.RowKit
open SP
section
variable {el tg : List (Int × Int)} {tm now : Int} {tags : List Int} {W w w' : World} {R : List SP} {S : SP} {b rb cb : Nat} {reb : Int}

def ActPost (b rb : Nat) (reb : Int) (S : SP) (R : List SP) (w : World) (e : Ending) (w' : World) : Prop :=
  ∃ S' el tg tm tags now, PExt S S' ∧ CsRel el tg tm tags now ∧ Ret (.bool true) (OrderR b reb el tg tm :: RefR S' rb reb el tags now :: S' :: R) w e w'

/-- Eligible on both sides. -/
theorem elig_both (h : CsRel el tg tm tags now) {A : SP} {a : Option Addr} {n c : Nat} {L : List (Int × Int)} (hA : PartsAt A a L) (hn : n = L.length) (hn2 : n ≤ 1000) : ∃ er el' tg' tags', CsRel el' tg' tm tags' now ∧
    (∀ (b : Nat) (w : World) (R : List SP), Own w (A :: OrderR b reb el tg tm :: R) → Calls Try.prog 16 #[.pointer (some ⟨b, 0, none⟩), .slice a n c] w (Ret (.int .i64 er) (A :: OrderR b reb el' tg' tm :: R) w)) ∧
    (∀ (S : SP) (b : Nat) (w : World) (R : List SP), Own w (A :: RefR S b reb el tags now :: S :: R) → Calls Try.prog 27 #[.pointer (some ⟨b, 0, none⟩), .slice a n c] w
      (fun e w' => ∃ S', PExt S S' ∧ Ret (.int .i64 er) (A :: RefR S' b reb el' tags' now :: S' :: R) w e w')) := by
  have hlen := h.elen
  cases hb : eligBad (-1) L with
  | true =>
    refine ⟨1, el, tg, tags, h, fun b w R o => ?_, fun S b w R o => ?_⟩
    · refine (eligibleG_spec A a n c L hA hn hn2 o).mono fun e w' hp => ?_
      unfold EligRes at hp
      rw [if_pos hb] at hp
      exact hp
    · refine (refElig_spec A a n c L hA hn hn2 (by omega) h.tval (by rw [h.now]; exact h.tm) o).mono fun e w' hp => ?_
      unfold RefElig at hp
      rw [if_pos hb] at hp
      exact ⟨S, PExt.refl S, hp⟩
  | false =>
    obtain ⟨h1, h2⟩ := h.elig hb
    refine ⟨0, L, _, _, h1, fun b w R o => ?_, fun S b w R o => ?_⟩
    · refine (eligibleG_spec A a n c L hA hn hn2 o).mono fun e w' hp => ?_
      unfold EligRes at hp
      rw [if_neg (by rw [hb]; simp), h2] at hp
      exact hp
    · refine (refElig_spec A a n c L hA hn hn2 (by omega) h.tval (by rw [h.now]; exact h.tm) o).mono fun e w' hp => ?_
      unfold RefElig at hp
      rw [if_neg (by rw [hb]; simp)] at hp
      exact hp
/-- Forget on both sides. -/
theorem forget_ref (h : CsRel el tg tm tags now) (f : Int) (o : Own w (RefR S b reb el tags now :: S :: R)) :
    Calls Try.prog 47 #[.pointer (some ⟨b, 0, none⟩), .int .i64 f] w (RefForg b reb now (eraseF f el) (forgetTags tags f) S R w) := by
  have hlen := h.elen
  rcases atF_some (f := f) el 0 with ⟨h1, h2⟩ | ⟨i, wt, h1, h2, h3⟩
  · rw [eraseF_none el h1]
    exact (refForget_none f (by omega) h2 o).mono fun e w' hp => ⟨S, PExt.refl S, hp⟩
  · rw [Nat.zero_add] at h2
    have hi := (List.getElem?_eq_some_iff.1 h1).1
    have hr := h.keys.2 _ (List.mem_of_getElem? h1)
    dsimp only at hr
    obtain ⟨f0, rfl⟩ : ∃ f0 : Nat, f = (f0 : Int) := ⟨f.toNat, by omega⟩
    have e1 : eraseF (f0 : Int) el = el.take i ++ el.drop (i + 1) := eraseF_at el 0 i (by rw [h2]; simp) hi
    have e2 : forgetTags tags (f0 : Int) = tags.set f0 0 := by unfold forgetTags; rw [if_pos (by omega), Int.toNat_natCast]
    rw [e1, e2]
    exact refForget_some f0 i (by omega) (by omega) hi h2 o

theorem flat_part_set : ∀ (L : List (Int × Int)) (i : Nat) (p : Int × Int), i < L.length → ((flat part L).set (i * 2) (.int .i64 p.1)).set (i * 2 + 1) (.int .i64 p.2) = flat part (L.set i p)
  | [], _, _, h => by simp at h
  | q :: L, 0, p, _ => rfl
  | q :: L, i + 1, p, h => by
    have ih := flat_part_set L i p (by simpa using h)
    have e1 : flat part (q :: L) = .int .i64 q.1 :: .int .i64 q.2 :: flat part L := rfl
    have e2 : flat part ((q :: L).set (i + 1) p) = .int .i64 q.1 :: .int .i64 q.2 :: flat part (L.set i p) := rfl
    rw [e1, e2, ← ih]
    have e3 : (i + 1) * 2 = i * 2 + 1 + 1 := by omega
    rw [e3]
    rfl
def badParts : List (Int × Int) := [(-1, 1), (0, 0), (32, 1), (3, 17)]

def ActMid (b rb cb : Nat) (reb : Int) (el tg : List (Int × Int)) (tm : Int) (tags : List Int) (now : Int) (S : SP) (W : World) (N : Nat) (R : List SP) (w : World) (v : Value) (wc : World) : Prop :=
  ∃ (a : Option Addr) (n c : Nat) (L : List (Int × Int)), v = .slice a n c ∧ n = L.length ∧ n ≤ 5 ∧ Own wc (slc 40 2 a n c (flat part L) :: OrderR b reb el tg tm :: RefR S rb reb el tags now :: S :: Ch W cb N :: old W :: R) ∧ Calm w wc

set_option maxHeartbeats 6400000 in
set_option maxRecDepth 100000 in
theorem act23_spec (h : CsRel el tg tm tags now) (N : Nat) (hN : (N : Int) ≤ 800000000000) (o : Own w (OrderR b reb el tg tm :: RefR S rb reb el tags now :: S :: Ch W cb N :: old W :: R)) :
    Calls Try.prog 24 #[.pointer (some ⟨cb, 0, none⟩), .pointer (some ⟨b, 0, none⟩), .pointer (some ⟨rb, 0, none⟩)] w (ActPost b rb reb S (Ch W cb (N + 9) :: old W :: R) w) := by
  have HH := Lib.hid h
  have hn := h.elen
  have hk := h.keyOk
  have HK := Lib.hid hk
  clear h hk
  go_enter Try.func24, Try.ntmps24
  go_wp2_with fail
  refine (next_spec W cb N 9 _ _ (by omega) (by omega) (by omega) (o.re [3, 4, 0, 1, 2])).mono ?_
  rintro e1 w1 ⟨x, hx0, hx1, rfl, o1, k1⟩
  have o2 := o1.re [2, 3, 4, 0, 1]
  clear o1 o
  by_cases hset : x ≤ 1
  · have hx01 : x = 0 ∨ x = 1 := by omega
    clear hset hx0 hx1
    rcases hx01 with rfl | rfl
    · go_wp2_with fail
      refine (set23_spec (W := W) (b := cb) (N + 1) (by omega) (o2.re [3, 4, 0, 1, 2])).mono ?_
      rintro e3 w3 ⟨L, a, cap, hl, rfl, o3, k3⟩
      have hl5 : L.length ≤ 5 := hl.length_le
      have HL := Lib.hid hl
      clear hl
      by_cases hz : L.length = 0
      · have hzb : ¬ 0 < L.length := by omega
        have oF := o3.re [0, 3, 4, 5, 1, 2]
        have kF := k1.trans k3
        have HZ := Lib.hid hz
        clear hz
        obtain ⟨er, el', tg', tags', hC, hp1, hp2⟩ := elig_both (n := L.length) (c := cap) HH.out (partsAt_slc a L.length cap L rfl) rfl (by omega)
        have HC := Lib.hid hC
        have HP1 := Lib.hid hp1
        have HP2 := Lib.hid hp2
        clear hC hp1 hp2
        go_wp2_with fail
        refine (HP1.out b _ _ oF).mono ?_
        rintro e8 w8 ⟨rfl, oG, kG⟩
        go_wp2_with fail
        refine (HP2.out S rb _ _ (oG.re [0, 2, 3, 1, 4, 5])).mono ?_
        rintro e9 w9 ⟨S', hE, rfl, oH, kH⟩
        go_wp2
        go_ret
        exact ⟨S', _, _, _, _, _, hE, HC.out, by simp, (Ch.more (M := N + 9) (oH.up 4)).re [1, 4, 2, 3, 0, 5] 1, kF.trans (kG.trans kH)⟩
      · have hzb : 0 < L.length := by omega
        go_wp2_with fail
        refine (next_spec W cb (N + 6) 8 _ _ (by omega) (by omega) (by omega) (o3.re [1, 2, 0, 3, 4, 5])).mono ?_
        rintro e4 w4 ⟨z, hz0, hz1, rfl, o4, k4⟩
        by_cases h8 : z = 0
        · subst h8
          go_wp2_with fail
          refine (next_spec W cb (N + 7) (L.length : Int) _ _ (by omega) (by omega) (by omega) o4).mono ?_
          rintro e5 w5 ⟨y, hy0, hy1, rfl, o5, k5⟩
          have o5a := (o5.alloc (.cells #[.int .i64 (-1), .int .i64 1, .int .i64 0, .int .i64 0, .int .i64 32, .int .i64 1, .int .i64 3, .int .i64 17] 40)).re [1, 2, 0, 3, 4, 5, 6]
          go_wp2_with fail
          refine (next_spec W cb (N + 8) 4 _ _ (by omega) (by omega) (by omega) o5a).mono ?_
          rintro e6 w6 ⟨u, hu0, hu1, rfl, o6, k6⟩
          obtain ⟨y0, rfl⟩ : ∃ y0 : Nat, y = (y0 : Int) := ⟨y.toNat, by omega⟩
          obtain ⟨u0, rfl⟩ : ∃ u0 : Nat, u = (u0 : Int) := ⟨u.toNat, by omega⟩
          obtain ⟨bp, hb1, hb2⟩ : ∃ bp : Int × Int, [Value.int .i64 (-1), .int .i64 1, .int .i64 0, .int .i64 0, .int .i64 32, .int .i64 1, .int .i64 3, .int .i64 17][u0 * 2]? = some (.int .i64 bp.1) ∧ [Value.int .i64 (-1), .int .i64 1, .int .i64 0, .int .i64 0, .int .i64 32, .int .i64 1, .int .i64 3, .int .i64 17][u0 * 2 + 1]? = some (.int .i64 bp.2) := by
            have : u0 = 0 ∨ u0 = 1 ∨ u0 = 2 ∨ u0 = 3 := by omega
            rcases this with rfl | rfl | rfl | rfl
            · exact ⟨(-1, 1), rfl, rfl⟩
            · exact ⟨(0, 0), rfl, rfl⟩
            · exact ⟨(32, 1), rfl, rfl⟩
            · exact ⟨(3, 17), rfl, rfl⟩
          have d0 := Own.cell (T := 40) (vs := [.int .i64 (-1), .int .i64 1, .int .i64 0, .int .i64 0, .int .i64 32, .int .i64 1, .int .i64 3, .int .i64 17]) (o6.up 2) (u0 * 2) hb1
          have d1 := Own.cell (T := 40) (vs := [.int .i64 (-1), .int .i64 1, .int .i64 0, .int .i64 0, .int .i64 32, .int .i64 1, .int .i64 3, .int .i64 17]) (o6.up 2) (u0 * 2 + 1) hb2
          obtain ⟨q, hq⟩ : ∃ q, L[y0]? = some q := ⟨_, List.getElem?_eq_getElem (by omega)⟩
          obtain ⟨g, rfl, q0, q1⟩ := part_cells (o6.up 3) hq hzb
          obtain ⟨g', hgg, _, qf, ql⟩ := (o6.up 3).slc_cell hzb
          cases hgg
          have hfl : (flat part L).length = L.length * 2 := flat_length part_len L
          have oS1 := (o6.up 3).slc_set (y0 * 2) (.int .i64 bp.1) (by rw [hfl]; omega)
          have oS2 := oS1.slc_set (y0 * 2 + 1) (.int .i64 bp.2) (by rw [List.length_set, hfl]; omega)
          rw [flat_part_set L y0 bp (by omega)] at oS2
          have hy0L : y0 < L.length := by omega
          have hu04 : u0 < 4 := by omega
          have hnF : L.length = (L.set y0 bp).length := by rw [List.length_set]
          have HNF := Lib.hid hnF
          have HFL := Lib.hid hfl
          clear hb1 hb2 hq hfl hnF oS1
          have oF := oS2.re [3, 0, 4, 5, 6, 1, 2] 1
          have kF : Calm w ((w6.setCell ⟨g, y0 * 2, none⟩ (.int .i64 bp.1)).setCell ⟨g, y0 * 2 + 1, none⟩ (.int .i64 bp.2)) := by
            have K := Calm.trans k5 k6.al
            have K2 := k1.trans (k3.trans (k4.trans ⟨K.os, K.tape, K.output⟩))
            exact ⟨K2.os, K2.tape, K2.output⟩
          obtain ⟨er, el', tg', tags', hC, hp1, hp2⟩ := elig_both (n := L.length) (c := cap) HH.out (partsAt_slc (some ⟨g, 0, none⟩) L.length cap (L.set y0 bp) HNF.out) HNF.out (by omega)
          have HC := Lib.hid hC
          have HP1 := Lib.hid hp1
          have HP2 := Lib.hid hp2
          clear hC hp1 hp2
          go_wp2_with fail
          refine (HP1.out b _ _ oF).mono ?_
          rintro e8 w8 ⟨rfl, oG, kG⟩
          go_wp2_with fail
          refine (HP2.out S rb _ _ (oG.re [0, 2, 3, 1, 4, 5])).mono ?_
          rintro e9 w9 ⟨S', hE, rfl, oH, kH⟩
          go_wp2
          go_ret
          exact ⟨S', _, _, _, _, _, hE, HC.out, by simp, (Ch.more (M := N + 9) (oH.up 4)).re [1, 4, 2, 3, 0, 5] 1, kF.trans (kG.trans kH)⟩
        · have h8b : (z == 0) = false := by rw [beq_eq_false_iff_ne]; exact h8
          have oF := o4.re [2, 3, 4, 5, 0, 1]
          have kF := k1.trans (k3.trans k4)
          obtain ⟨er, el', tg', tags', hC, hp1, hp2⟩ := elig_both (n := L.length) (c := cap) HH.out (partsAt_slc a L.length cap L rfl) rfl (by omega)
          have HC := Lib.hid hC
          have HP1 := Lib.hid hp1
          have HP2 := Lib.hid hp2
          clear hC hp1 hp2
          go_wp2_with fail
          refine (HP1.out b _ _ oF).mono ?_
          rintro e8 w8 ⟨rfl, oG, kG⟩
          go_wp2_with fail
          refine (HP2.out S rb _ _ (oG.re [0, 2, 3, 1, 4, 5])).mono ?_
          rintro e9 w9 ⟨S', hE, rfl, oH, kH⟩
          go_wp2
          go_ret
          exact ⟨S', _, _, _, _, _, hE, HC.out, by simp, (Ch.more (M := N + 9) (oH.up 4)).re [1, 4, 2, 3, 0, 5] 1, kF.trans (kG.trans kH)⟩
    · go_wp2_with fail
      refine (set23_spec (W := W) (b := cb) (N + 1) (by omega) (o2.re [3, 4, 0, 1, 2])).mono ?_
      rintro e3 w3 ⟨L, a, cap, hl, rfl, o3, k3⟩
      have hl5 : L.length ≤ 5 := hl.length_le
      have HL := Lib.hid hl
      clear hl
      by_cases hz : L.length = 0
      · have hzb : ¬ 0 < L.length := by omega
        have oF := o3.re [0, 3, 4, 5, 1, 2]
        have kF := k1.trans k3
        have HZ := Lib.hid hz
        clear hz
        obtain ⟨er, el', tg', tags', hC, hp1, hp2⟩ := elig_both (n := L.length) (c := cap) HH.out (partsAt_slc a L.length cap L rfl) rfl (by omega)
        have HC := Lib.hid hC
        have HP1 := Lib.hid hp1
        have HP2 := Lib.hid hp2
        clear hC hp1 hp2
        go_wp2_with fail
        refine (HP1.out b _ _ oF).mono ?_
        rintro e8 w8 ⟨rfl, oG, kG⟩
        go_wp2_with fail
        refine (HP2.out S rb _ _ (oG.re [0, 2, 3, 1, 4, 5])).mono ?_
        rintro e9 w9 ⟨S', hE, rfl, oH, kH⟩
        go_wp2
        go_ret
        exact ⟨S', _, _, _, _, _, hE, HC.out, by simp, (Ch.more (M := N + 9) (oH.up 4)).re [1, 4, 2, 3, 0, 5] 1, kF.trans (kG.trans kH)⟩
      · have hzb : 0 < L.length := by omega
        go_wp2_with fail
        refine (next_spec W cb (N + 6) 8 _ _ (by omega) (by omega) (by omega) (o3.re [1, 2, 0, 3, 4, 5])).mono ?_
        rintro e4 w4 ⟨z, hz0, hz1, rfl, o4, k4⟩
        by_cases h8 : z = 0
        · subst h8
          go_wp2_with fail
          refine (next_spec W cb (N + 7) (L.length : Int) _ _ (by omega) (by omega) (by omega) o4).mono ?_
          rintro e5 w5 ⟨y, hy0, hy1, rfl, o5, k5⟩
          have o5a := (o5.alloc (.cells #[.int .i64 (-1), .int .i64 1, .int .i64 0, .int .i64 0, .int .i64 32, .int .i64 1, .int .i64 3, .int .i64 17] 40)).re [1, 2, 0, 3, 4, 5, 6]
          go_wp2_with fail
          refine (next_spec W cb (N + 8) 4 _ _ (by omega) (by omega) (by omega) o5a).mono ?_
          rintro e6 w6 ⟨u, hu0, hu1, rfl, o6, k6⟩
          obtain ⟨y0, rfl⟩ : ∃ y0 : Nat, y = (y0 : Int) := ⟨y.toNat, by omega⟩
          obtain ⟨u0, rfl⟩ : ∃ u0 : Nat, u = (u0 : Int) := ⟨u.toNat, by omega⟩
          obtain ⟨bp, hb1, hb2⟩ : ∃ bp : Int × Int, [Value.int .i64 (-1), .int .i64 1, .int .i64 0, .int .i64 0, .int .i64 32, .int .i64 1, .int .i64 3, .int .i64 17][u0 * 2]? = some (.int .i64 bp.1) ∧ [Value.int .i64 (-1), .int .i64 1, .int .i64 0, .int .i64 0, .int .i64 32, .int .i64 1, .int .i64 3, .int .i64 17][u0 * 2 + 1]? = some (.int .i64 bp.2) := by
            have : u0 = 0 ∨ u0 = 1 ∨ u0 = 2 ∨ u0 = 3 := by omega
            rcases this with rfl | rfl | rfl | rfl
            · exact ⟨(-1, 1), rfl, rfl⟩
            · exact ⟨(0, 0), rfl, rfl⟩
            · exact ⟨(32, 1), rfl, rfl⟩
            · exact ⟨(3, 17), rfl, rfl⟩
          have d0 := Own.cell (T := 40) (vs := [.int .i64 (-1), .int .i64 1, .int .i64 0, .int .i64 0, .int .i64 32, .int .i64 1, .int .i64 3, .int .i64 17]) (o6.up 2) (u0 * 2) hb1
          have d1 := Own.cell (T := 40) (vs := [.int .i64 (-1), .int .i64 1, .int .i64 0, .int .i64 0, .int .i64 32, .int .i64 1, .int .i64 3, .int .i64 17]) (o6.up 2) (u0 * 2 + 1) hb2
          obtain ⟨q, hq⟩ : ∃ q, L[y0]? = some q := ⟨_, List.getElem?_eq_getElem (by omega)⟩
          obtain ⟨g, rfl, q0, q1⟩ := part_cells (o6.up 3) hq hzb
          obtain ⟨g', hgg, _, qf, ql⟩ := (o6.up 3).slc_cell hzb
          cases hgg
          have hfl : (flat part L).length = L.length * 2 := flat_length part_len L
          have oS1 := (o6.up 3).slc_set (y0 * 2) (.int .i64 bp.1) (by rw [hfl]; omega)
          have oS2 := oS1.slc_set (y0 * 2 + 1) (.int .i64 bp.2) (by rw [List.length_set, hfl]; omega)
          rw [flat_part_set L y0 bp (by omega)] at oS2
          have hy0L : y0 < L.length := by omega
          have hu04 : u0 < 4 := by omega
          have hnF : L.length = (L.set y0 bp).length := by rw [List.length_set]
          have HNF := Lib.hid hnF
          have HFL := Lib.hid hfl
          clear hb1 hb2 hq hfl hnF oS1
          have oF := oS2.re [3, 0, 4, 5, 6, 1, 2] 1
          have kF : Calm w ((w6.setCell ⟨g, y0 * 2, none⟩ (.int .i64 bp.1)).setCell ⟨g, y0 * 2 + 1, none⟩ (.int .i64 bp.2)) := by
            have K := Calm.trans k5 k6.al
            have K2 := k1.trans (k3.trans (k4.trans ⟨K.os, K.tape, K.output⟩))
            exact ⟨K2.os, K2.tape, K2.output⟩
          obtain ⟨er, el', tg', tags', hC, hp1, hp2⟩ := elig_both (n := L.length) (c := cap) HH.out (partsAt_slc (some ⟨g, 0, none⟩) L.length cap (L.set y0 bp) HNF.out) HNF.out (by omega)
          have HC := Lib.hid hC
          have HP1 := Lib.hid hp1
          have HP2 := Lib.hid hp2
          clear hC hp1 hp2
          go_wp2_with fail
          refine (HP1.out b _ _ oF).mono ?_
          rintro e8 w8 ⟨rfl, oG, kG⟩
          go_wp2_with fail
          refine (HP2.out S rb _ _ (oG.re [0, 2, 3, 1, 4, 5])).mono ?_
          rintro e9 w9 ⟨S', hE, rfl, oH, kH⟩
          go_wp2
          go_ret
          exact ⟨S', _, _, _, _, _, hE, HC.out, by simp, (Ch.more (M := N + 9) (oH.up 4)).re [1, 4, 2, 3, 0, 5] 1, kF.trans (kG.trans kH)⟩
        · have h8b : (z == 0) = false := by rw [beq_eq_false_iff_ne]; exact h8
          have oF := o4.re [2, 3, 4, 5, 0, 1]
          have kF := k1.trans (k3.trans k4)
          obtain ⟨er, el', tg', tags', hC, hp1, hp2⟩ := elig_both (n := L.length) (c := cap) HH.out (partsAt_slc a L.length cap L rfl) rfl (by omega)
          have HC := Lib.hid hC
          have HP1 := Lib.hid hp1
          have HP2 := Lib.hid hp2
          clear hC hp1 hp2
          go_wp2_with fail
          refine (HP1.out b _ _ oF).mono ?_
          rintro e8 w8 ⟨rfl, oG, kG⟩
          go_wp2_with fail
          refine (HP2.out S rb _ _ (oG.re [0, 2, 3, 1, 4, 5])).mono ?_
          rintro e9 w9 ⟨S', hE, rfl, oH, kH⟩
          go_wp2
          go_ret
          exact ⟨S', _, _, _, _, _, hE, HC.out, by simp, (Ch.more (M := N + 9) (oH.up 4)).re [1, 4, 2, 3, 0, 5] 1, kF.trans (kG.trans kH)⟩
  · have hx0b : (x == 0) = false := by rw [beq_eq_false_iff_ne]; omega
    have hx1b : (x == 1) = false := by rw [beq_eq_false_iff_ne]; omega
    by_cases h2 : x = 2
    · subst h2
      go_wp2_with fail
      refine (next_spec W cb (N + 1) 7 _ _ (by omega) (by omega) (by omega) (o2.re [3, 4, 0, 1, 2])).mono ?_
      rintro e3 w3 ⟨y, hy0, hy1, rfl, o3, k3⟩
      go_wp2_with fail
      refine (forget_spec (y - 1) (o3.re [2, 0, 1, 3, 4])).mono ?_
      rintro e4 w4 ⟨rfl, o4, k4⟩
      have hf := forget_ref HH.out (y - 1) (o4.re [3, 4, 0, 1, 2])
      go_wp2_with fail
      refine hf.mono ?_
      rintro e5 w5 ⟨S', hE, rfl, o5, k5⟩
      go_wp2
      go_ret
      refine ⟨S', _, _, _, _, _, hE, HH.out.forget (y - 1), rfl, ?_, k1.trans (k3.trans (k4.trans k5))⟩
      rw [← mdel_eraseF]
      rw [← mdel_eraseF] at o5
      exact (Ch.more (M := N + 9) (o5.up 3)).re [3, 1, 2, 0, 4]
    · have hx2b : (x == 2) = false := by rw [beq_eq_false_iff_ne]; omega
      by_cases h3 : x = 3
      · subst h3
        have oA : Own w1.drew (Ch W cb (N + 1) :: old W :: OrderR b reb el tg tm :: RefR S rb reb el tags now :: S :: R) := (o2.re [3, 4, 0, 1, 2]).drew
        have oB : Own ((w1.alloc (.cells #[.int .i64 0, .int .i64 1, .int .i64 1500, .int .i64 4096, .int .i64 4097] 3)).drew) (Ch W cb (N + 1) :: old W :: cel w1.heap.size 3 [.int .i64 0, .int .i64 1, .int .i64 1500, .int .i64 4096, .int .i64 4097] :: OrderR b reb el tg tm :: RefR S rb reb el tags now :: S :: R) :=
          (((o2.re [3, 4, 0, 1, 2]).alloc (.cells #[.int .i64 0, .int .i64 1, .int .i64 1500, .int .i64 4096, .int .i64 4097] 3)).drew).re [1, 2, 0]
        go_upto_region 14 with fail
        go_cut [9, 10] (fun v9 v10 wc => ∃ f n : Int, v9 = .int .i64 f ∧ v10 = .int .i64 n ∧ Own wc (OrderR b reb el tg tm :: RefR S rb reb el tags now :: S :: Ch W cb (N + 3) :: old W :: R) ∧ Calm w wc)
        case first =>
          have helt : ∀ z : Int, 0 ≤ z → z < 5 → ∃ (j : Nat) (n : Int), z = (j : Int) ∧ j < 5 ∧ [Value.int .i64 0, .int .i64 1, .int .i64 1500, .int .i64 4096, .int .i64 4097][j]? = some (.int .i64 n) := fun z h1 h2 => by
            obtain ⟨j, rfl⟩ : ∃ j : Nat, z = (j : Int) := ⟨z.toNat, by omega⟩
            have : j = 0 ∨ j = 1 ∨ j = 2 ∨ j = 3 ∨ j = 4 := by omega
            rcases this with rfl | rfl | rfl | rfl | rfl <;> exact ⟨_, _, rfl, by omega, rfl⟩
          have HEL := Lib.hid helt
          have hN1 : ((N + 1 : Nat) : Int) ≤ 1000000000000 := by omega
          have hN2 : ((N + 1 + 1 : Nat) : Int) ≤ 1000000000000 := by omega
          have HN1 := Lib.hid hN1
          have HN2 := Lib.hid hN2
          clear helt hN1 hN2
          go_region_with (first
            | (go_at_call 14; (with_reducible refine (next_spec W cb (N + 1) 6 _ _ (by decide) (by decide) HN1.out oA).mono ?_); rintro e3 w3 ⟨y, hy0, hy1, rfl, o3, k3⟩; have o3a := (o3.alloc (.cells #[.int .i64 0, .int .i64 1, .int .i64 1500, .int .i64 4096, .int .i64 4097] 3)).re [1, 2, 0])
            | (go_at_call 14; (with_reducible refine (next_spec W cb (N + 1) 6 _ _ (by decide) (by decide) HN1.out oB).mono ?_); rintro e3 w3 ⟨y, hy0, hy1, rfl, o3b, k3⟩)
            | (go_at_call 14; (with_reducible refine (next_spec W cb (N + 1 + 1) 5 _ _ (by decide) (by decide) HN2.out o3a).mono ?_); rintro e4 w4 ⟨z, hz0, hz1, rfl, o4, k4⟩; obtain ⟨j, n, rfl, hj5, hjn⟩ := HEL.out z hz0 hz1; have c4 := Own.cell (T := 3) (vs := [Value.int .i64 0, .int .i64 1, .int .i64 1500, .int .i64 4096, .int .i64 4097]) (o4.up 2) j hjn; clear hjn; have oE := o4.re [2, 3, 4, 5, 0, 1] 1)
            | (go_at_call 14; (with_reducible refine (next_spec W cb (N + 1 + 1) 5 _ _ (by decide) (by decide) HN2.out o3b).mono ?_); rintro e4 w4 ⟨z, hz0, hz1, rfl, o4, k4⟩; obtain ⟨j, n, rfl, hj5, hjn⟩ := HEL.out z hz0 hz1; have c4 := Own.cell (T := 3) (vs := [Value.int .i64 0, .int .i64 1, .int .i64 1500, .int .i64 4096, .int .i64 4097]) (o4.up 2) j hjn; clear hjn; have oE := o4.re [2, 3, 4, 5, 0, 1] 1)
            | (go_at_call 14; (with_reducible refine (next_spec W cb (N + 1 + 1) 5 _ _ (by decide) (by decide) HN2.out o3).mono ?_); rintro e4 w4 ⟨z, hz0, hz1, rfl, o4, k4⟩; obtain ⟨j, n, rfl, hj5, hjn⟩ := HEL.out z hz0 hz1; have c4 := Own.cell (T := 3) (vs := [Value.int .i64 0, .int .i64 1, .int .i64 1500, .int .i64 4096, .int .i64 4097]) (o4.alloc (.cells #[.int .i64 0, .int .i64 1, .int .i64 1500, .int .i64 4096, .int .i64 4097] 3)) j hjn; clear hjn; have oE := (o4.alloc (.cells #[.int .i64 0, .int .i64 1, .int .i64 1500, .int .i64 4096, .int .i64 4097] 3)).re [0, 3, 4, 5, 1, 2] 1))
          all_goals go_wp2
          all_goals go_meet
          all_goals exact ⟨y, n, rfl, rfl, oE, ⟨k4.os.trans (k3.os.trans k1.os), k4.tape.trans (k3.tape.trans k1.tape), k4.output.trans (k3.output.trans k1.output)⟩⟩
        case rest =>
          obtain ⟨f, n, rfl, rfl, o5, k5⟩ := hcut
          obtain ⟨er, tg', tm', tags', now', hB⟩ := serve_both HH.out reb f n
          have HB := Lib.hid hB
          clear hB
          go_wp2_with fail
          refine (HB.out.prog b _ _ o5).mono ?_
          rintro e6 w6 ⟨rfl, o6, k6⟩
          go_wp2_with fail
          refine (HB.out.ref S rb _ _ (o6.re [1, 2, 0])).mono ?_
          rintro e7 w7 ⟨rfl, o7, k7⟩
          go_wp2
          go_ret
          exact ⟨S, _, _, _, _, _, PExt.refl S, HB.out.rel, by simp, (Ch.more (M := N + 9) (o7.up 3)).re [3, 1, 2, 0], k5.trans (k6.trans k7)⟩
      · have hx3b : (x == 3) = false := by rw [beq_eq_false_iff_ne]; omega
        obtain ⟨p, q, hs1, hs2, hpq⟩ := HH.out.selP
        have HS1 := Lib.hid hs1
        have HS2 := Lib.hid hs2
        have HKR := Lib.hid HH.out.keys.2
        clear hs1 hs2
        go_wp2_with fail
        refine (select_spec HK.out (by omega) o2).mono ?_
        rintro e3 w3 ⟨rfl, o3, k3⟩
        rw [HS1.out]
        go_wp2_with fail
        refine (refSelect_spec (fun p hp => by have := HKR.out p hp; omega) (by omega) (o3.re [1, 2, 0, 3, 4])).mono ?_
        rintro e4 w4 ⟨rfl, m4, hw4⟩
        rw [HS2.out]
        have o4 : Own w4 (OrderR b reb el tg tm :: RefR S rb reb el tags now :: S :: Ch W cb (N + 1) :: old W :: R) := by rw [hw4]; exact o3.drewN m4
        have k4 : Calm w3 w4 := by rw [hw4]; exact ⟨rfl, rfl, rfl⟩
        clear hw4
        go_wp2_with fail
        refine (length_spec (W := W) (b := cb) (N + 1) (by omega) (o4.re [3, 4, 0, 1, 2])).mono ?_
        rintro e5 w5 ⟨n, hn1, hn2, rfl, o5, k5⟩
        rcases hpq with rfl | rfl
        · obtain ⟨er, tg', tm', tags', now', hB⟩ := serve_both HH.out reb p n
          have HB := Lib.hid hB
          clear hB
          go_wp2_with fail
          refine (HB.out.prog b _ _ (o5.re [2, 0, 1, 3, 4])).mono ?_
          rintro e6 w6 ⟨rfl, o6, k6⟩
          go_wp2_with fail
          refine (HB.out.ref S rb _ _ (o6.re [3, 4, 0, 1, 2])).mono ?_
          rintro e7 w7 ⟨rfl, o7, k7⟩
          go_wp2
          go_ret
          exact ⟨S, _, _, _, _, _, PExt.refl S, HB.out.rel, by simp, (Ch.more (M := N + 9) (o7.up 3)).re [3, 1, 2, 0, 4], k1.trans (k3.trans (k4.trans (k5.trans (k6.trans k7))))⟩
        · go_wp2
          go_ret
          exact ⟨S, _, _, _, _, _, PExt.refl S, HH.out, by simp, (Ch.more (M := N + 9) o5).re [2, 3, 4, 0, 1], k1.trans (k3.trans (k4.trans k5))⟩
end
end Go.Proofs.Ytnandakoigmknaa
