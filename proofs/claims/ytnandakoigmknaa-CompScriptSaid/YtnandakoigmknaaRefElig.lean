/- The reference order of chapter 22: Eligible, Forget. -/
import Derived.Test.YtnandakoigmknaaRefServe
import Derived.Test.YtnandakoigmknaaApp
namespace Go.Proofs.Ytnandakoigmknaa
open Go.RowKit
open SP
section
variable {S : SP} {W w w' : World} {R : List SP} {b : Nat} {reb now : Int} {l : List (Int × Int)} {tags : List Int}

def tagsE (el : List (Int × Int)) (now : Int) : List (Int × Int) → List Int → List Int
  | [], tags => tags
  | p :: L, tags => tagsE el now L (if atF p.1 0 el < 0 then tags.set p.1.toNat (max (tags.getD p.1.toNat 0) now) else tags)
theorem tagsE_len (el : List (Int × Int)) (now : Int) : ∀ (L : List (Int × Int)) (tags : List Int), (tagsE el now L tags).length = tags.length
  | [], _ => rfl
  | p :: L, tags => by unfold tagsE; rw [tagsE_len]; split <;> simp
def RefOk (b : Nat) (reb now : Int) (L : List (Int × Int)) (tags : List Int) (A S : SP) (R : List SP) (w : World) (e : Ending) (w' : World) : Prop :=
  ∃ S', PExt S S' ∧ Ret (.int .i64 0) (A :: RefR S' b reb L tags now :: S' :: R) w e w'
def RefElig (b : Nat) (reb now : Int) (l : List (Int × Int)) (tags : List Int) (L : List (Int × Int)) (A S : SP) (R : List SP) (w : World) (e : Ending) (w' : World) : Prop :=
  if eligBad (-1) L = true then Ret (.int .i64 1) (A :: RefR S b reb l tags now :: S :: R) w e w' else RefOk b reb now L (tagsE l now L tags) A S R w e w'

/-- What can be read in a list of parts, cell by cell. -/
theorem parts_src {A : SP} {a : Option Addr} {n c : Nat} {L : List (Int × Int)} (hA : PartsAt A a L) (hn : n = L.length) (o : Own w (A :: R)) : IsSrc w (.slice a n c) 2 n (flat part L) := by
  refine ⟨a, c, rfl, by rw [flat_length part_len, hn], fun u hu => ?_, ?_⟩
  · obtain ⟨p, _, hp⟩ := List.mem_flatMap.1 hu
    unfold part at hp
    simp at hp
    rcases hp with rfl | rfl <;> rfl
  · cases L with
    | nil => exact .inl hn
    | cons p L' =>
      obtain ⟨g, so, rfl, _, _⟩ := hA _ _ o 0 p rfl
      refine .inr ⟨_, rfl, fun j u hu => ?_⟩
      have hadd : (⟨g, so, none⟩ : Addr).add j = ⟨g, so + j, none⟩ := by unfold Addr.add; split <;> simp_all
      rw [hadd]
      have hj : j < (p :: L').length * 2 := by rw [← flat_length part_len]; exact (List.getElem?_eq_some_iff.1 hu).1
      obtain ⟨q, hq⟩ : ∃ q, (p :: L')[j / 2]? = some q := ⟨_, List.getElem?_eq_getElem (by omega)⟩
      have hg := flat_get part_len (p :: L') (j / 2) (j % 2) q hq (by omega)
      have ej : j / 2 * 2 + j % 2 = j := by omega
      rw [ej, hu] at hg
      obtain ⟨g', so', h1, h2, h3⟩ := hA _ _ o (j / 2) q hq
      cases h1
      rcases (show j % 2 = 0 ∨ j % 2 = 1 by omega) with h | h
      · rw [h] at hg ej
        unfold part at hg
        simp at hg
        rw [hg, ← h2]; congr 2; omega
      · rw [h] at hg ej
        unfold part at hg
        simp at hg
        rw [hg, ← h3]; congr 2; omega

def RERel1 (b : Nat) (reb now : Int) (l : List (Int × Int)) (tags : List Int) (L : List (Int × Int)) (B : Bool) (A S : SP) (R : List SP) (w : World) (v5 : Value) (wr : World) : Prop :=
  ∃ (i : Nat) (last : Int), v5 = .int .i64 (i : Int) ∧ i ≤ L.length ∧ eligBad last (L.drop i) = B ∧ (0 < i → 0 ≤ last ∧ ∃ y, L[i - 1]? = some (last, y)) ∧ (i = 0 → last = -1) ∧ (∀ q ∈ L.take i, 0 ≤ q.1 ∧ q.1 < 32) ∧ Own wr (A :: RefR S b reb l tags now :: S :: R) ∧ Calm w wr

def RERel2 (b : Nat) (reb now : Int) (l : List (Int × Int)) (L : List (Int × Int)) (TG : List Int) (A S : SP) (R : List SP) (w : World) (v6 : Value) (wr : World) : Prop :=
  ∃ (i : Nat) (tags' : List Int), v6 = .int .i64 (i : Int) ∧ i ≤ L.length ∧ tagsE l now (L.drop i) tags' = TG ∧ (∀ x ∈ tags', 0 ≤ x ∧ x ≤ 1099511627776) ∧ Own wr (A :: RefR S b reb l tags' now :: S :: R) ∧ Calm w wr

set_option maxHeartbeats 6400000 in
set_option maxRecDepth 100000 in
theorem refElig_spec (A : SP) (a : Option Addr) (n c : Nat) (L : List (Int × Int)) (hA : PartsAt A a L) (hn : n = L.length) (hn2 : n ≤ 1000) (hl2 : l.length ≤ 1000) (hv : ∀ x ∈ tags, 0 ≤ x ∧ x ≤ 1099511627776) (hnow : 0 ≤ now ∧ now ≤ 1099511627776)
    (o : Own w (A :: RefR S b reb l tags now :: S :: R)) :
    Calls Try.prog 27 #[.pointer (some ⟨b, 0, none⟩), .slice a n c] w (RefElig b reb now l tags L A S R w) := by
  have hT : RERel1 b reb now l tags L (eligBad (-1) L) A S R w (.int .i64 0) w := ⟨0, -1, rfl, by omega, rfl, by omega, fun _ => rfl, by simp, o, Calm.refl w⟩
  generalize hBB : eligBad (-1) L = B at *
  have HBB := Lib.hid hBB
  clear hBB
  have Hn := Lib.hid hn
  have HV := Lib.hid hv
  clear hn hv
  go_enter Try.func27, Try.ntmps27
  go_wp2
  go_loopw [5] (fun v5 wr => RERel1 b reb now l tags L B A S R w v5 wr) (fun v5 _ => n - (intOf v5).toNat)
  case atStart => exact hT
  case round =>
    clear hT
    obtain ⟨i, last, rfl, hi, hE, hpos, hzero, htk, oR, kR⟩ := hrel
    have HB := Lib.hid hE
    have HTK := Lib.hid htk
    clear hE htk
    by_cases hlt : i < n
    · obtain ⟨p, hp⟩ : ∃ p, L[i]? = some p := ⟨_, List.getElem?_eq_getElem (by have := Hn.out; omega)⟩
      obtain ⟨g, so, rfl, d0, d1⟩ := hA _ _ oR i _ hp
      have HD := Lib.hid (drop_at hp)
      obtain ⟨x, y⟩ := p
      dsimp only at d0 d1
      have HP := Lib.hid hp
      clear hp
      have hnext : 0 ≤ x → x < 32 → ∀ q ∈ L.take (i + 1), 0 ≤ q.1 ∧ q.1 < 32 := fun h1 h2 q hq => by
        rw [List.take_add_one, HP.out] at hq
        rcases List.mem_append.1 hq with hq | hq
        · exact HTK.out q hq
        · simp at hq; subst hq; exact ⟨h1, h2⟩
      have HN := Lib.hid hnext
      clear hnext
      have badk : ∀ m, eligBad (-1) L = true → RefElig b reb now l tags L A S R w (.returned (.int .i64 1)) (wr.drewN m) := fun m hb => by
        rw [RefElig, if_pos hb]
        exact ⟨rfl, oR.drewN _, kR.dn _⟩
      have BADK := Lib.hid badk
      clear badk
      by_cases hi0 : i = 0
      · have hl1 := hzero hi0
        have hd0 : decide ((0 : Int) < (i : Int)) = false := by simp; omega
        have hd1 : decide (0 < i) = false := by simp; omega
        have hin : ¬ (0 : Int) < (i : Int) := by omega
        have HI0 := Lib.hid hi0
        have hi00 : i ≤ 0 := by omega
        have hl11 : last ≤ -1 := by omega
        have hl12 : -1 ≤ last := by omega
        clear hpos hzero hi0 hl1
        by_cases h1 : x < 0
        · have dh1 : decide (x < 0) = true := by simpa using h1
          go_wp2
          go_quiet (fail)
          go_wp2
          go_ret
          exact BADK.out _ (HBB.out.trans (by rw [← HB.out, HD.out, eligBad_step]; exact .inl (by omega)))
        · have dh1 : decide (x < 0) = false := by simpa using h1
          by_cases h2 : 32 ≤ x
          · have dh2 : decide (32 ≤ x) = true := by simpa using h2
            go_wp2
            go_quiet (fail)
            go_wp2
            go_ret
            exact BADK.out _ (HBB.out.trans (by rw [← HB.out, HD.out, eligBad_step]; exact .inr (.inl h2)))
          · have dh2 : decide (32 ≤ x) = false := by simpa using h2
            by_cases h3 : y < 1
            · have dh3 : decide (y < 1) = true := by simpa using h3
              go_wp2
              go_quiet (fail)
              go_wp2
              go_ret
              exact BADK.out _ (HBB.out.trans (by rw [← HB.out, HD.out, eligBad_step]; exact .inr (.inr (.inl h3))))
            · have dh3 : decide (y < 1) = false := by simpa using h3
              by_cases h4 : 16 < y
              · have dh4 : decide (16 < y) = true := by simpa using h4
                go_wp2
                go_quiet (fail)
                go_wp2
                go_ret
                exact BADK.out _ (HBB.out.trans (by rw [← HB.out, HD.out, eligBad_step]; exact .inr (.inr (.inr (.inl h4)))))
              · have dh4 : decide (16 < y) = false := by simpa using h4
                go_wp2
                go_quiet (fail)
                go_wp2
                go_roundw
                case rel =>
                  refine ⟨i + 1, x, by go_num, by have := Hn.out; omega, ?_, fun _ => ⟨by omega, y, by rw [Nat.add_sub_cancel]; exact HP.out⟩, fun h => by omega, HN.out (by omega) (by omega), oR.drewN _, kR.dn _⟩
                  rw [← HB.out, HD.out, Bool.eq_iff_iff, eligBad_step]
                  constructor
                  · exact fun h => .inr (.inr (.inr (.inr h)))
                  · rintro (h | h | h | h | h)
                    · omega
                    · omega
                    · omega
                    · omega
                    · exact h
                case measure => simp [intOf]; omega
      · obtain ⟨j, hj⟩ : ∃ j, i = j + 1 := ⟨i - 1, by omega⟩
        obtain ⟨hl0, y', hy'⟩ := hpos (by omega)
        rw [show i - 1 = j from by omega] at hy'
        obtain ⟨g', so', hgg, e0, _⟩ := hA _ _ oR j _ hy'
        cases hgg
        dsimp only at e0
        clear hy' hpos hzero
        have hij1 : ((i : Int) - 1) = (j : Int) := by omega
        have hi1 : (0 : Int) < (i : Int) := by omega
        have hjn : j < n := by omega
        clear hj
        have hi1n : 0 < i := by omega
        have hd0 : decide ((0 : Int) < (i : Int)) = true := by simpa using hi1n
        have hd1 : decide (0 < i) = true := by simpa using hi1n
        by_cases h1 : x < 0
        · have dh1 : decide (x < 0) = true := by simpa using h1
          go_wp2
          go_quiet (fail)
          go_wp2
          go_ret
          exact BADK.out _ (HBB.out.trans (by rw [← HB.out, HD.out, eligBad_step]; exact .inl (by omega)))
        · have dh1 : decide (x < 0) = false := by simpa using h1
          by_cases h2 : 32 ≤ x
          · have dh2 : decide (32 ≤ x) = true := by simpa using h2
            go_wp2
            go_quiet (fail)
            go_wp2
            go_ret
            exact BADK.out _ (HBB.out.trans (by rw [← HB.out, HD.out, eligBad_step]; exact .inr (.inl h2)))
          · have dh2 : decide (32 ≤ x) = false := by simpa using h2
            by_cases h5 : x ≤ last
            · have dh5 : decide (x ≤ last) = true := by simpa using h5
              go_wp2
              go_quiet (fail)
              go_wp2
              go_ret
              exact BADK.out _ (HBB.out.trans (by rw [← HB.out, HD.out, eligBad_step]; exact .inl h5))
            · have dh5 : decide (x ≤ last) = false := by simpa using h5
              by_cases h3 : y < 1
              · have dh3 : decide (y < 1) = true := by simpa using h3
                go_wp2
                go_quiet (fail)
                go_wp2
                go_ret
                exact BADK.out _ (HBB.out.trans (by rw [← HB.out, HD.out, eligBad_step]; exact .inr (.inr (.inl h3))))
              · have dh3 : decide (y < 1) = false := by simpa using h3
                by_cases h4 : 16 < y
                · have dh4 : decide (16 < y) = true := by simpa using h4
                  go_wp2
                  go_quiet (fail)
                  go_wp2
                  go_ret
                  exact BADK.out _ (HBB.out.trans (by rw [← HB.out, HD.out, eligBad_step]; exact .inr (.inr (.inr (.inl h4)))))
                · have dh4 : decide (16 < y) = false := by simpa using h4
                  go_wp2
                  go_quiet (fail)
                  go_wp2
                  go_roundw
                  case rel =>
                    refine ⟨i + 1, x, by go_num, by have := Hn.out; omega, ?_, fun _ => ⟨by omega, y, by rw [Nat.add_sub_cancel]; exact HP.out⟩, fun h => by omega, HN.out (by omega) (by omega), oR.drewN _, kR.dn _⟩
                    rw [← HB.out, HD.out, Bool.eq_iff_iff, eligBad_step]
                    constructor
                    · exact fun h => .inr (.inr (.inr (.inr h)))
                    · rintro (h | h | h | h | h)
                      · omega
                      · omega
                      · omega
                      · omega
                      · exact h
                  case measure => simp [intOf]; omega
    · have hin : i = L.length := by have := Hn.out; omega
      have hBf : eligBad (-1) L = false := HBB.out.trans (by rw [← HB.out, List.drop_eq_nil_of_le (by omega)]; rfl)
      have hrng : ∀ q ∈ L, 0 ≤ q.1 ∧ q.1 < 32 := fun q hq => HTK.out q (by rw [hin, List.take_length]; exact hq)
      have HBf := Lib.hid hBf
      have HR := Lib.hid hrng
      have hT2 : RERel2 b reb now l L (tagsE l now L tags) A S R w (.int .i64 0) wr := ⟨0, tags, rfl, by omega, rfl, HV.out, oR, kR⟩
      obtain ⟨TG, hTG⟩ : ∃ T, tagsE l now L tags = T := ⟨_, rfl⟩
      rw [hTG] at hT2
      have HTG := Lib.hid hTG
      clear hBf hrng hTG hpos hzero HB HTK hin oR kR
      go_wp2
      go_loopw [6] (fun v6 wr' => RERel2 b reb now l L TG A S R w v6 wr') (fun v6 _ => n - (intOf v6).toNat)
      case atStart => exact hT2
      case round =>
        clear hT2 hlt hi
        obtain ⟨i, tags', rfl, hi, hE, hv', oR, kR⟩ := hrel
        have HE := Lib.hid hE
        have HV' := Lib.hid hv'
        clear hE hv'
        obtain ⟨a1, c1, hl, hP, o1⟩ := RefR.iff.1 (oR.up 1)
        have k1 := o1.cell 1
        by_cases hlt : i < n
        · obtain ⟨p, hp⟩ : ∃ p, L[i]? = some p := ⟨_, List.getElem?_eq_getElem (by have := Hn.out; omega)⟩
          obtain ⟨g, so, rfl, d0, d1⟩ := hA _ _ oR i _ hp
          have hpr := HR.out p (List.mem_of_getElem? hp)
          have HD := Lib.hid (drop_at hp)
          obtain ⟨x, y⟩ := p
          dsimp only at d0 d1 hpr
          clear hp
          obtain ⟨x0, rfl⟩ : ∃ x0 : Nat, x = (x0 : Int) := ⟨x.toNat, by omega⟩
          obtain ⟨t, ht⟩ : ∃ t, tags'[x0]? = some t := ⟨_, List.getElem?_eq_getElem (by omega)⟩
          have htr := HV'.out _ (List.mem_of_getElem? ht)
          have htd : Hid (tags'.getD ((x0 : Int)).toNat 0 = t) := Lib.hid (by rw [Int.toNat_natCast, List.getD_eq_getElem?_getD, ht]; rfl)
          have f1 := o1.cell (2 + x0) (refCells_tag ht)
          have k34 := o1.cell 34 (refCells_now hl)
          have hfz := o1.frozen
          have hbl := o1.celLt
          have hat := at_spec (c := c1) (x0 : Int) hP.1 rfl hl2 ((o1.up 2).drew)
          obtain ⟨z, hz⟩ : ∃ z, atF (x0 : Int) 0 l = z := ⟨_, rfl⟩
          rw [hz] at hat
          have HZ := Lib.hid hz
          have hx32 : x0 < 32 := by omega
          have hxI0 : ¬ ((x0 : Int) < 0) := by omega
          have hx0l : x0 < tags'.length := by omega
          have oN := o1.setCell (2 + x0) (.int .i64 (max t now))
          rw [refCells_setTag hx0l] at oN
          clear ht hz
          by_cases hneg : z < 0
          · go_wp2
            refine wp_region_tail 9 (by kernel_rfl) (by kernel_rfl) ?_
            simp only [List.take_succ_cons, List.take_zero, List.drop_succ_cons, List.drop_zero]
            repeat still_step
            refine wpStill_nil ?_
            go_wp2_with fail
            refine hat.mono ?_
            rintro e4 w4 ⟨rfl, rfl⟩
            go_wp2
            refine wp_region_tail 23 (by kernel_rfl) (by kernel_rfl) ?_
            simp only [List.take_succ_cons, List.take_zero, List.drop_succ_cons, List.drop_zero]
            repeat still_step
            refine wpStill_nil ?_
            go_wp2
            go_roundw
            case rel =>
              refine ⟨i + 1, tags'.set x0 (max t now), by go_num, by have := Hn.out; omega, ?_, fun u hu => ?_, ?_, ⟨kR.os, kR.tape, kR.output⟩⟩
              · rw [← HE.out, HD.out, tagsE]
                dsimp only
                rw [HZ.out, if_pos hneg, htd.out, Int.toNat_natCast]
              · rcases List.mem_or_eq_of_mem_set hu with h | h
                · exact HV'.out u h
                · omega
              · exact Own.swap (RefR.iff.2 ⟨a1, c1, by rw [List.length_set]; exact hl, hP, (oN.drew).drew⟩)
            case measure => simp [intOf]; omega
          · go_wp2
            refine wp_region_tail 9 (by kernel_rfl) (by kernel_rfl) ?_
            simp only [List.take_succ_cons, List.take_zero, List.drop_succ_cons, List.drop_zero]
            repeat still_step
            refine wpStill_nil ?_
            go_wp2_with fail
            refine hat.mono ?_
            rintro e4 w4 ⟨rfl, rfl⟩
            go_wp2
            go_roundw
            case rel =>
              refine ⟨i + 1, tags', by go_num, by have := Hn.out; omega, ?_, HV'.out, oR.drew, ⟨kR.os, kR.tape, kR.output⟩⟩
              rw [← HE.out, HD.out, tagsE]
              dsimp only
              rw [HZ.out, if_neg (by omega)]
            case measure => simp [intOf]; omega
        · have hE : tags' = TG := by rw [← HE.out, List.drop_eq_nil_of_le (by have := Hn.out; omega)]; rfl
          have HE2 := Lib.hid hE
          have hbl := o1.celLt
          have hfz := o1.frozen
          clear hE
          have oZ := slc_zero (e := 40) (size := 2) ((o1.alloc (.cells #[] 40)))
          have hsrc := parts_src (c := c) hA Hn.out (oZ.up 2)
          go_wp2_with (at_builtin; refine wpList_append_src rfl _ _ rfl Try.partT rfl oZ rfl hsrc (by unfold maxLen; omega) (by omega) ?c1)
          case c1 =>
          intro a' cap' w5 o5 k5
          try simp only [Nat.zero_add, List.nil_append] at o5
          have q1 := (o5.up 1).cell 1
          have qf := (o5.up 1).frozen
          have ql := (o5.up 1).celLt
          have o6 := (o5.up 1).setCell 1 (.slice a' n cap')
          rw [refCells_setIn] at o6
          clear hsrc
          go_wp2
          go_ret
          rw [RefElig, if_neg (by rw [HBf.out]; simp), HTG.out, ← HE2.out]
          have hnL := Hn.out
          have o7a : Own (w5.setCell ⟨b, 1, none⟩ (.slice a' n cap')) (slc 40 2 a' n cap' (flat part L) :: S :: cel b 55 (refCells reb a' n cap' tags' now) :: A :: R) := o6.re [1, 3, 0, 2]
          have o7b : Own (w5.setCell ⟨b, 1, none⟩ (.slice a' n cap')) (st [slc 40 2 a' n cap' (flat part L), S] :: cel b 55 (refCells reb a' n cap' tags' now) :: A :: R) := Own.st.2 o7a
          have o7 := o7b.re [1, 2, 0]
          refine ⟨st [slc 40 2 a' n cap' (flat part L), S], PExt.add _ _, rfl, ?_, ⟨?_, ?_, ?_⟩⟩
          · refine Own.swap (RefR.iff.2 ⟨a', cap', hl, ⟨PartsAt.new (partsAt_slc a' n cap' L hnL), by rw [← hnL]; exact o5.slc_len.2.1⟩, ?_⟩)
            rw [← hnL]
            exact o7
          · exact k5.os.trans kR.os
          · exact k5.tape.trans kR.tape
          · exact k5.output.trans kR.output

def eraseF (f : Int) : List (Int × Int) → List (Int × Int)
  | [] => []
  | p :: l => if p.1 = f then l else p :: eraseF f l
def forgetTags (tags : List Int) (f : Int) : List Int := if 0 ≤ f ∧ f < 32 then tags.set f.toNat 0 else tags
theorem eraseF_none {f : Int} : ∀ (l : List (Int × Int)), (∀ p ∈ l, p.1 ≠ f) → eraseF f l = l
  | [], _ => rfl
  | p :: l, h => by unfold eraseF; rw [if_neg (h p (by simp)), eraseF_none l (fun q hq => h q (by simp [hq]))]
theorem eraseF_at {f : Int} : ∀ (l : List (Int × Int)) (j i : Nat), atF f j l = ((j + i : Nat) : Int) → i < l.length → eraseF f l = l.take i ++ l.drop (i + 1)
  | [], _, _, _, h => by simp at h
  | p :: l, j, i, h, hi => by
    unfold atF at h
    unfold eraseF
    by_cases hp : p.1 = f
    · rw [if_pos hp] at h ⊢
      have : i = 0 := by omega
      subst this
      rfl
    · rw [if_neg hp] at h ⊢
      cases i with
      | zero =>
        exfalso
        have : ∀ (l : List (Int × Int)) (k : Nat), atF f k l = -1 ∨ (k : Int) ≤ atF f k l := by
          intro l
          induction l with
          | nil => intro k; left; rfl
          | cons q l ih =>
            intro k
            unfold atF
            split
            · right; exact Int.le_refl _
            · rcases ih (k + 1) with h | h
              · left; exact h
              · right; push_cast at h; omega
        rcases this l (j + 1) with h' | h' <;> rw [h] at h' <;> push_cast at h' <;> omega
      | succ i =>
        rw [eraseF_at l (j + 1) i (by rw [h]; congr 1; omega) (by simpa using hi)]
        rfl
end
end Go.Proofs.Ytnandakoigmknaa
