/- The reference order of chapter 22: Forget. -/
import Derived.Test.YtnandakoigmknaaRefElig
import Derived.Deep.RegionLaw
import Derived.Deep.DeepCutAuto
import Derived.Deep.CutBlock
namespace Go.Proofs.Ytnandakoigmknaa
open Go.RowKit
open SP
section
variable {S : SP} {W w w' : World} {R : List SP} {b : Nat} {reb now : Int} {l : List (Int × Int)} {tags : List Int}

/-- A part of what can be read. -/
theorem parts_cut {A : SP} {g so : Nat} {i k c : Nat} {L : List (Int × Int)} (hA : PartsAt A (some ⟨g, so, none⟩) L) (hik : i + k ≤ L.length) (o : Own w (A :: R)) :
    IsSrc w (.slice (some ⟨g, so + i * 2, none⟩) k c) 2 k (flat part ((L.drop i).take k)) := by
  have hl : ((L.drop i).take k).length = k := by rw [List.length_take, List.length_drop]; omega
  have hB : PartsAt A (some ⟨g, so + i * 2, none⟩) ((L.drop i).take k) := fun w R o j y hy => by
    have hj := (List.getElem?_eq_some_iff.1 hy).1
    rw [hl] at hj
    have hy2 : L[i + j]? = some y := by rw [List.getElem?_take, if_pos hj, List.getElem?_drop] at hy; exact hy
    obtain ⟨g', so', h1, h2, h3⟩ := hA w R o (i + j) y hy2
    cases h1
    refine ⟨g, so + i * 2, rfl, ?_, ?_⟩
    · rw [← h2]; congr 2; omega
    · rw [← h3]; congr 2; omega
  exact parts_src hB hl.symm o

def RefForg (b : Nat) (reb now : Int) (L : List (Int × Int)) (tags : List Int) (S : SP) (R : List SP) (w : World) (e : Ending) (w' : World) : Prop :=
  ∃ S', PExt S S' ∧ Ret (.tuple #[]) (RefR S' b reb L tags now :: S' :: R) w e w'

set_option maxHeartbeats 3200000 in
set_option maxRecDepth 100000 in
theorem refForget_none (f : Int) (hn2 : l.length ≤ 1000) (hf : atF f 0 l = -1) (o : Own w (RefR S b reb l tags now :: S :: R)) :
    Calls Try.prog 47 #[.pointer (some ⟨b, 0, none⟩), .int .i64 f] w (Ret (.tuple #[]) (RefR S b reb l (forgetTags tags f) now :: S :: R) w) := by
  obtain ⟨a, c, hl, hP, o1⟩ := RefR.iff.1 o
  have c1 := o1.cell 1
  have hat := at_spec (c := c) f hP.1 rfl hn2 (o1.up 1)
  rw [hf] at hat
  have hfz := o1.frozen
  have hlt := o1.celLt
  clear hf
  by_cases h0 : 0 ≤ f
  · by_cases h32 : f < 32
    · have e : forgetTags tags f = tags.set f.toNat 0 := if_pos ⟨h0, h32⟩
      obtain ⟨x0, rfl⟩ : ∃ x0 : Nat, f = (x0 : Int) := ⟨f.toNat, by omega⟩
      rw [Int.toNat_natCast] at e
      obtain ⟨t, ht⟩ : ∃ t, tags[x0]? = some t := ⟨_, List.getElem?_eq_getElem (by omega)⟩
      have f1 := o1.cell (2 + x0) (refCells_tag ht)
      have oN := o1.setCell (2 + x0) (.int .i64 0)
      rw [refCells_setTag (by omega)] at oN
      have HE := Lib.hid e
      have hx32 : x0 < 32 := by omega
      have hxI1 : ¬ ((x0 : Int) < 0) := by omega
      clear ht e
      go_enter Try.func47, Try.ntmps47
      go_wp2_with fail
      refine hat.mono ?_
      rintro e1 w1 ⟨rfl, rfl⟩
      go_wp2
      go_end0
      rw [HE.out]
      exact ⟨rfl, RefR.iff.2 ⟨a, c, by rw [List.length_set]; exact hl, hP, oN⟩, ⟨rfl, rfl, rfl⟩⟩
    · have e : forgetTags tags f = tags := if_neg (by omega)
      rw [e]; clear e
      go_enter Try.func47, Try.ntmps47
      go_wp2_with fail
      refine hat.mono ?_
      rintro e1 w1 ⟨rfl, rfl⟩
      go_wp2
      go_end0
      exact ⟨rfl, o, ⟨rfl, rfl, rfl⟩⟩
  · have e : forgetTags tags f = tags := if_neg (by omega)
    rw [e]; clear e
    go_enter Try.func47, Try.ntmps47
    go_wp2_with fail
    refine hat.mono ?_
    rintro e1 w1 ⟨rfl, rfl⟩
    go_wp2
    go_end0
    exact ⟨rfl, o, ⟨rfl, rfl, rfl⟩⟩

def ForgMid (b : Nat) (reb now : Int) (L : List (Int × Int)) (tags : List Int) (S : SP) (R : List SP) (w wc : World) : Prop :=
  ∃ S' a c, PExt S S' ∧ PartsAt S' a L ∧ L.length ≤ c ∧ Own wc (cel b 55 (refCells reb a L.length c tags now) :: S' :: R) ∧ Calm w wc
theorem forg_mid {w6 : World} {a0 a6 : Option Addr} {n0 c0 n c6 : Nat} {xs ys : List (Int × Int)} (hn : n = (xs ++ ys).length)
    (o : Own w6 (slc 40 2 a6 n c6 (flat part xs ++ flat part ys) :: cel b 55 (refCells reb a0 n0 c0 tags now) :: S :: R)) (k : Calm w w6) :
    ForgMid b reb now (xs ++ ys) tags S R w (w6.setCell ⟨b, 1, none⟩ (.slice a6 n c6)) := by
  rw [← flat_append] at o
  subst hn
  have o6 := o.swap.setCell 1 (.slice a6 (xs ++ ys).length c6)
  rw [refCells_setIn] at o6
  have o7a : Own (w6.setCell ⟨b, 1, none⟩ (.slice a6 (xs ++ ys).length c6)) (slc 40 2 a6 (xs ++ ys).length c6 (flat part (xs ++ ys)) :: S :: cel b 55 (refCells reb a6 (xs ++ ys).length c6 tags now) :: R) := o6.re [1, 2, 0]
  have o7b : Own (w6.setCell ⟨b, 1, none⟩ (.slice a6 (xs ++ ys).length c6)) (st [slc 40 2 a6 (xs ++ ys).length c6 (flat part (xs ++ ys)), S] :: cel b 55 (refCells reb a6 (xs ++ ys).length c6 tags now) :: R) := Own.st.2 o7a
  exact ⟨_, a6, c6, PExt.add _ _, PartsAt.new (partsAt_slc a6 _ c6 _ rfl), o.slc_len.2.1, o7b.swap, ⟨k.os, k.tape, k.output⟩⟩

set_option maxHeartbeats 3200000 in
set_option maxRecDepth 100000 in
theorem refForget_some (f : Nat) (i : Nat) (hn2 : l.length ≤ 1000) (h32 : f < 32) (hi : i < l.length) (hf : atF f 0 l = (i : Int)) (o : Own w (RefR S b reb l tags now :: S :: R)) :
    Calls Try.prog 47 #[.pointer (some ⟨b, 0, none⟩), .int .i64 (f : Int)] w (RefForg b reb now (l.take i ++ l.drop (i + 1)) (tags.set f 0) S R w) := by
  obtain ⟨a, c, hl, hP, o1⟩ := RefR.iff.1 o
  have c1 := o1.cell 1
  have hat := at_spec (c := c) f hP.1 rfl hn2 (o1.up 1)
  rw [hf] at hat
  obtain ⟨g, so, rfl, _, _⟩ := hP.1 _ _ (o1.up 1) i _ (List.getElem?_eq_getElem hi)
  have oZ := slc_zero (e := 40) (size := 2) ((o1.drew.alloc (.cells #[] 40)))
  have s1 := parts_cut (i := 0) (k := i) (c := c) hP.1 (by omega) (oZ.up 2)
  rw [Nat.zero_mul, Nat.add_zero, List.drop_zero] at s1
  have hp2 : ∀ (w : World) (R : List SP) (a : Option Addr) (c' : Nat), (a = some ⟨g, so + (i + 1) * 2, none⟩ ∨ l.length - (i + 1) = 0) → Own w (S :: R) → IsSrc w (.slice a (l.length - (i + 1)) c') 2 (l.length - (i + 1)) (flat part (l.drop (i + 1))) := fun w R a c' ha o => by
    have e : ((l.drop (i + 1)).take (l.length - (i + 1))) = l.drop (i + 1) := List.take_of_length_le (by rw [List.length_drop]; omega)
    rcases ha with rfl | ha
    · have := parts_cut (i := i + 1) (k := l.length - (i + 1)) (c := c') hP.1 (by omega) o
      rw [e] at this
      exact this
    · rw [ha]
      have : l.drop (i + 1) = [] := List.drop_eq_nil_of_le (by omega)
      rw [this]
      exact ⟨a, c', rfl, by simp [flat], by simp [flat], .inl rfl⟩
  have HP2 := Lib.hid hp2
  have hlen2 : (flat part (l.take i)).length = i * 2 := by rw [flat_length part_len, List.length_take]; omega
  have hcat : flat part (l.take i) ++ flat part (l.drop (i + 1)) = flat part (l.take i ++ l.drop (i + 1)) := (flat_append _ _ _).symm
  have hcl : (l.take i ++ l.drop (i + 1)).length = i + (l.length - (i + 1)) := by rw [List.length_append, List.length_take, List.length_drop]; omega
  have HC1 := Lib.hid hcat
  have HC2 := Lib.hid hcl
  have hfz := o1.frozen
  have hlt := o1.celLt
  obtain ⟨t, ht⟩ : ∃ t, tags[f]? = some t := ⟨_, List.getElem?_eq_getElem (by omega)⟩
  have HT := Lib.hid ht
  have hfI : (f : Int) < 32 := by omega
  have hfI0 : ¬ ((f : Int) < 0) := by omega
  clear hf hp2 hcat hcl hlen2 ht
  have hcap := hP.2
  have b1 : (0 : Int) ≤ (i : Int) := by omega
  have b2 : (i : Int) ≤ (c : Int) := by omega
  have b2' : i ≤ c := by omega
  have b7 : (i : Int) + 1 ≤ (l.length : Int) := by omega
  have b8 : (i : Int) + 1 ≤ (c : Int) := by omega
  have b9 : i + 1 ≤ l.length := by omega
  have b4 : 0 ≤ (i : Int) + 1 := by omega
  have m1 : 0 + i ≤ maxLen := by unfold maxLen; omega
  have m2 : (0 + i) * 16 ≤ 140737488355328 := by omega
  have m3 : i + (l.length - (i + 1)) ≤ maxLen := by unfold maxLen; omega
  have m4 : (i + (l.length - (i + 1))) * 16 ≤ 140737488355328 := by omega
  have b5 : IntKind.i64.wrap ((i : Int) + 1) = (i : Int) + 1 := by rw [IntKind.wrap_i64]; omega
  have b6 : ((i : Int) + 1).toNat = i + 1 := by omega
  have M1 := Lib.hid m1
  have M2 := Lib.hid m2
  have M3 := Lib.hid m3
  have M4 := Lib.hid m4
  clear m1 m2 m3 m4
  have hfI2 : (0 : Int) ≤ (f : Int) := by omega
  by_cases hic : i + 1 = c
  · subst hic
    have z1 : (i : Int) ≤ (i : Int) + 1 := by omega
    have z2 : (l.length : Int) ≤ (i : Int) + 1 := by omega
    have z3 : l.length ≤ i + 1 := by omega
    have hdz : l.drop (i + 1) = [] := List.drop_eq_nil_of_le z3
    have HDZ := Lib.hid hdz
    have src0 : ∀ (w : World) (a : Option Addr) (c' : Nat), IsSrc w (.slice a 0 c') 2 0 [] := fun w a c' => ⟨a, c', rfl, by simp, by simp, .inl rfl⟩
    have SRC := Lib.hid src0
    have m5 : i + 0 ≤ maxLen := by unfold maxLen; omega
    have m6 : (i + 0) * 16 ≤ 140737488355328 := by omega
    have M5 := Lib.hid m5
    have M6 := Lib.hid m6
    have hti : Hid ((l.take i ++ ([] : List (Int × Int))).length = i) := Lib.hid (by rw [List.append_nil, List.length_take]; omega)
    clear hdz src0 m5 m6
    go_enter Try.func47, Try.ntmps47
    go_wp2_with fail
    refine hat.mono ?_
    rintro e1 w1 ⟨rfl, rfl⟩
    go_upto_region 2 with fail
    go_cut [29] (fun _ wc => ForgMid b reb now (l.take i ++ l.drop (i + 1)) tags S R w wc)
    case first =>
      go_region_law (first
        | (refine step_append_src rfl _ _ rfl Try.partT rfl oZ rfl s1 M1.out M2.out ?_; intro a5 c5 w5 o5 k5; have o5z := slc_plus o5; have q5 := (o5.up 1).cell 1)
        | (refine step_append_src rfl _ _ rfl Try.partT rfl o5z rfl (SRC.out _ _ _) M5.out M6.out ?_; intro a6 c6 w6 o6 k6; have q6 := (o6.up 1).cell 1; have qf6 := (o6.up 1).frozen; have ql6 := (o6.up 1).celLt))
      all_goals go_wp2
      all_goals go_meet
      all_goals (have k7 := Calm.trans k5 k6; rw [HDZ.out]; exact forg_mid (n := i) (ys := []) hti.out.symm o6 ⟨k7.os, k7.tape, k7.output⟩)
    case rest =>
      obtain ⟨S', a7, c7, hE, hP7, hl7, o7, k7⟩ := hcut
      have f1 := o7.cell (2 + f) (refCells_tag HT.out)
      have qf := o7.frozen
      have ql := o7.celLt
      have oN := o7.setCell (2 + f) (.int .i64 0)
      rw [refCells_setTag (by omega)] at oN
      clear s1 oZ
      go_wp2
      go_end0
      exact ⟨S', hE, rfl, RefR.iff.2 ⟨a7, c7, by rw [List.length_set]; exact hl, ⟨hP7, hl7⟩, oN⟩, ⟨k7.os, k7.tape, k7.output⟩⟩
  · have hic2 : ((i : Int) + 1 == (c : Int)) = false := by rw [beq_eq_false_iff_ne]; omega
    have hic3 : ¬ c = i + 1 := by omega
    go_enter Try.func47, Try.ntmps47
    go_wp2_with fail
    refine hat.mono ?_
    rintro e1 w1 ⟨rfl, rfl⟩
    go_upto_region 2 with fail
    go_cut [29] (fun _ wc => ForgMid b reb now (l.take i ++ l.drop (i + 1)) tags S R w wc)
    case first =>
      go_region_law (first
        | (refine step_append_src rfl _ _ rfl Try.partT rfl oZ rfl s1 M1.out M2.out ?_; intro a5 c5 w5 o5 k5; have o5z := slc_plus o5; have q5 := (o5.up 1).cell 1)
        | (refine step_append_src rfl _ _ rfl Try.partT rfl o5z rfl (HP2.out _ _ _ _ (.inl rfl) (o5z.up 2)) M3.out M4.out ?_; intro a6 c6 w6 o6 k6; have q6 := (o6.up 1).cell 1; have qf6 := (o6.up 1).frozen; have ql6 := (o6.up 1).celLt))
      all_goals go_wp2
      all_goals go_meet
      all_goals (have k7 := Calm.trans k5 k6; exact forg_mid HC2.out.symm o6 ⟨k7.os, k7.tape, k7.output⟩)
    case rest =>
      obtain ⟨S', a7, c7, hE, hP7, hl7, o7, k7⟩ := hcut
      have f1 := o7.cell (2 + f) (refCells_tag HT.out)
      have qf := o7.frozen
      have ql := o7.celLt
      have oN := o7.setCell (2 + f) (.int .i64 0)
      rw [refCells_setTag (by omega)] at oN
      clear s1 oZ
      go_wp2
      go_end0
      exact ⟨S', hE, rfl, RefR.iff.2 ⟨a7, c7, by rw [List.length_set]; exact hl, ⟨hP7, hl7⟩, oN⟩, ⟨k7.os, k7.tape, k7.output⟩⟩
end
end Go.Proofs.Ytnandakoigmknaa
