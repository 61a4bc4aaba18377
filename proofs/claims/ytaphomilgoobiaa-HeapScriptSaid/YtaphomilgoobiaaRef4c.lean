/- The reference of chapter 4: Remove. -/
import Derived.Test.YtaphomilgoobiaaRef4b
namespace Go.Proofs.Ytaphomilgoobiaa
open Go.RowKit
open SP
section
variable {W w w' : World} {b : Nat} {cap : Int} {L : List (Int × Int)} {R : List SP}
/-- A part of a slice of entries. -/
theorem ent_cut {g n c i k c' : Nat} (hn : n = L.length) (hik : i + k ≤ L.length) (o : Own w (slc 41 2 (some ⟨g, 0, none⟩) n c (flat ent L) :: R)) :
    IsSrc w (.slice (some ⟨g, i * 2, none⟩) k c') 2 k (flat ent ((L.drop i).take k)) := by
  have hl : ((L.drop i).take k).length = k := by rw [List.length_take, List.length_drop]; omega
  refine ⟨_, c', rfl, by rw [flat_length ent_len, hl], fun u hu => ?_, ?_⟩
  · obtain ⟨p, _, hp⟩ := List.mem_flatMap.1 hu
    unfold ent at hp
    simp at hp
    rcases hp with rfl | rfl <;> rfl
  · refine .inr ⟨_, rfl, fun j u hu => ?_⟩
    have hadd : (⟨g, i * 2, none⟩ : Addr).add j = ⟨g, i * 2 + j, none⟩ := by unfold Addr.add; split <;> simp_all
    rw [hadd]
    have hj : j < k * 2 := by have := (List.getElem?_eq_some_iff.1 hu).1; rwa [flat_length ent_len, hl] at this
    have hjk : j / 2 < k := by omega
    obtain ⟨p, hp⟩ : ∃ p, ((L.drop i).take k)[j / 2]? = some p := ⟨_, List.getElem?_eq_getElem (by rw [hl]; exact hjk)⟩
    have hp2 : L[i + j / 2]? = some p := by rw [List.getElem?_take, if_pos hjk, List.getElem?_drop] at hp; exact hp
    have h1 := flat_get ent_len ((L.drop i).take k) (j / 2) (j % 2) p hp (Nat.mod_lt _ (by omega))
    have h2 := flat_get ent_len L (i + j / 2) (j % 2) p hp2 (Nat.mod_lt _ (by omega))
    rw [show j / 2 * 2 + j % 2 = j from by omega, hu] at h1
    rw [show (i + j / 2) * 2 + j % 2 = i * 2 + j from by omega, ← h1] at h2
    obtain ⟨g', hg, hc, -, -⟩ := o.slc_cell (by omega)
    cases hg
    exact hc _ _ h2

def RemMid (b : Nat) (cap : Int) (L : List (Int × Int)) (R : List SP) (w wc : World) : Prop := Own wc (RefH b cap L :: R) ∧ Calm w wc
theorem rem_mid {w6 : World} {a0 a6 a9 : Option Addr} {n0 c0 n c6 n9 c9 : Nat} {xs ys L9 : List (Int × Int)} (hn : n = (xs ++ ys).length)
    (o : Own w6 (slc 41 2 a6 n c6 (flat ent xs ++ flat ent ys) :: cel b 54 [.int .i64 cap, .slice a0 n0 c0] :: slc 41 2 a9 n9 c9 (flat ent L9) :: R)) (k : Calm w w6) :
    RemMid b cap (xs ++ ys) R w (w6.setCell ⟨b, 1, none⟩ (.slice a6 n c6)) := by
  rw [← flat_append] at o
  subst hn
  have o6 : Own (w6.setCell ⟨b, 1, none⟩ (.slice a6 (xs ++ ys).length c6)) (cel b 54 [.int .i64 cap, .slice a6 (xs ++ ys).length c6] :: slc 41 2 a6 (xs ++ ys).length c6 (flat ent (xs ++ ys)) :: R) := (o.swap.setCell 1 (.slice a6 (xs ++ ys).length c6)).re [2, 0, 1] 1
  exact ⟨RefH.iff.2 ⟨a6, c6, o6⟩, ⟨k.os, k.tape, k.output⟩⟩

set_option maxHeartbeats 1600000 in
set_option maxRecDepth 100000 in
theorem removeR_none (id : Int) (hL : L.length ≤ 900000) (hn : id ∉ idsE L) (o : Own w (RefH b cap L :: R)) :
    Calls Try.prog 31 #[.pointer (some ⟨b, 0, none⟩), .int .i64 id] w (Ret (.tuple #[.int .i64 0, .int .i64 6]) (RefH b cap L :: R) w) := by
  have hat := at4_spec id (by omega) o
  rw [atE_none 0 L hn] at hat
  clear hn
  go_enter Try.func31, Try.ntmps31
  go_wp2_with fail
  refine hat.mono ?_
  rintro e5 w5 ⟨rfl, rfl⟩
  go_wp2
  go_ret2
  exact ⟨rfl, o, Calm.refl _⟩
set_option maxHeartbeats 3200000 in
set_option maxRecDepth 100000 in
theorem removeR_some (x : Int × Int) (hL : L.length ≤ 900000) (hnd : (idsE L).Nodup) (hx : x ∈ L) (o : Own w (RefH b cap L :: R)) :
    Calls Try.prog 31 #[.pointer (some ⟨b, 0, none⟩), .int .i64 x.1] w (Ret (.tuple #[.int .i64 x.2, .int .i64 0]) (RefH b cap (delK x.1 L) :: R) w) := by
  have hat := at4_spec x.1 (by omega) o
  obtain ⟨i, y, hy, he, hai⟩ := atE_some 0 L (List.mem_map.2 ⟨x, hx, rfl⟩ : x.1 ∈ idsE L)
  obtain rfl : y = x := nodup_inj hnd (List.mem_of_getElem? hy) hx he
  rw [hai, Nat.zero_add] at hat
  rw [← delK_at hnd hy]
  obtain ⟨a, c, o1⟩ := RefH.iff.1 o
  have hi := (List.getElem?_eq_some_iff.1 hy).1
  obtain ⟨g, hg, d0, d1, -, hgl⟩ := ent_cells (o1.up 1) hy (by omega)
  subst hg
  have hcap := (o1.up 1).slc_len.2.1
  have c1 := o1.cell 1
  have oZ := slc_zero (e := 41) (size := 2) ((o1.drew.alloc (.cells #[] 41)))
  have s1 := ent_cut (L := L) (n := L.length) (c := c) (i := 0) (k := i) (c' := c) rfl (by omega) (oZ.up 2)
  rw [Nat.zero_mul, List.drop_zero] at s1
  have hp2 : ∀ (w : World) (R : List SP) (a : Option Addr) (c' : Nat), (a = some ⟨g, (i + 1) * 2, none⟩ ∨ L.length - (i + 1) = 0) → Own w (slc 41 2 (some ⟨g, 0, none⟩) L.length c (flat ent L) :: R) → IsSrc w (.slice a (L.length - (i + 1)) c') 2 (L.length - (i + 1)) (flat ent (L.drop (i + 1))) := fun w R a c' ha o => by
    have e : ((L.drop (i + 1)).take (L.length - (i + 1))) = L.drop (i + 1) := List.take_of_length_le (by rw [List.length_drop]; omega)
    rcases ha with rfl | ha
    · have := ent_cut (L := L) (n := L.length) (c := c) (i := i + 1) (k := L.length - (i + 1)) (c' := c') rfl (by omega) o
      rw [e] at this
      exact this
    · rw [ha]
      have : L.drop (i + 1) = [] := List.drop_eq_nil_of_le (by omega)
      rw [this]
      exact ⟨a, c', rfl, by simp [flat], by simp [flat], .inl rfl⟩
  have HP2 := Lib.hid hp2
  have hcl : (L.take i ++ L.drop (i + 1)).length = i + (L.length - (i + 1)) := by rw [List.length_append, List.length_take, List.length_drop]; omega
  have HC2 := Lib.hid hcl
  have hfz := o1.frozen
  have hlt := o1.celLt
  clear hp2 hcl hy hai hx hnd he
  have b1 : (0 : Int) ≤ (i : Int) := by omega
  have b2 : (i : Int) ≤ (c : Int) := by omega
  have b2' : i ≤ c := by omega
  have b7 : (i : Int) + 1 ≤ (L.length : Int) := by omega
  have b8 : (i : Int) + 1 ≤ (c : Int) := by omega
  have b9 : i + 1 ≤ L.length := by omega
  have b4 : 0 ≤ (i : Int) + 1 := by omega
  have M1 : Hid (0 + i ≤ maxLen) := Lib.hid (by unfold maxLen; omega)
  have M2 : Hid ((0 + i) * 16 ≤ 140737488355328) := Lib.hid (by omega)
  have M3 : Hid (i + (L.length - (i + 1)) ≤ maxLen) := Lib.hid (by unfold maxLen; omega)
  have M4 : Hid ((i + (L.length - (i + 1))) * 16 ≤ 140737488355328) := Lib.hid (by omega)
  have b5 : IntKind.i64.wrap ((i : Int) + 1) = (i : Int) + 1 := by rw [IntKind.wrap_i64]; omega
  have b6 : ((i : Int) + 1).toNat = i + 1 := by omega
  by_cases hic : i + 1 = c
  · subst hic
    have z1 : (i : Int) ≤ (i : Int) + 1 := by omega
    have z2 : (L.length : Int) ≤ (i : Int) + 1 := by omega
    have z3 : L.length ≤ i + 1 := by omega
    have HDZ : Hid (L.drop (i + 1) = []) := Lib.hid (List.drop_eq_nil_of_le z3)
    have src0 : ∀ (w : World) (a : Option Addr) (c' : Nat), IsSrc w (.slice a 0 c') 2 0 [] := fun w a c' => ⟨a, c', rfl, by simp, by simp, .inl rfl⟩
    have SRC := Lib.hid src0
    have M5 : Hid (i + 0 ≤ maxLen) := Lib.hid (by unfold maxLen; omega)
    have M6 : Hid ((i + 0) * 16 ≤ 140737488355328) := Lib.hid (by omega)
    have hti : Hid ((L.take i ++ ([] : List (Int × Int))).length = i) := Lib.hid (by rw [List.append_nil, List.length_take]; omega)
    clear src0
    go_enter Try.func31, Try.ntmps31
    go_wp2_with fail
    refine hat.mono ?_
    rintro e1 w1 ⟨rfl, rfl⟩
    go_upto_region 5 with fail
    go_cut [29] (fun _ wc => RemMid b cap (L.take i ++ L.drop (i + 1)) R w wc)
    case first =>
      go_region_law (first
        | (refine step_append_src rfl _ _ rfl Try.entT rfl oZ rfl s1 M1.out M2.out ?_; intro a5 c5 w5 o5 k5; have o5z := slc_plus o5; have q5 := (o5.up 1).cell 1)
        | (refine step_append_src rfl _ _ rfl Try.entT rfl o5z rfl (SRC.out _ _ _) M5.out M6.out ?_; intro a6 c6 w6 o6 k6; have q6 := (o6.up 1).cell 1; have qf6 := (o6.up 1).frozen; have ql6 := (o6.up 1).celLt))
      all_goals go_wp2
      all_goals go_meet
      all_goals (have k7 := Calm.trans k5 k6; rw [HDZ.out]; exact rem_mid (n := i) (ys := []) hti.out.symm o6 ⟨k7.os, k7.tape, k7.output⟩)
    case rest =>
      obtain ⟨o7, k7⟩ := hcut
      clear s1 oZ
      go_wp2
      go_ret2
      exact ⟨rfl, o7, k7⟩
  · have hic2 : ((i : Int) + 1 == (c : Int)) = false := by rw [beq_eq_false_iff_ne]; omega
    have hic3 : ¬ c = i + 1 := by omega
    go_enter Try.func31, Try.ntmps31
    go_wp2_with fail
    refine hat.mono ?_
    rintro e1 w1 ⟨rfl, rfl⟩
    go_upto_region 5 with fail
    go_cut [29] (fun _ wc => RemMid b cap (L.take i ++ L.drop (i + 1)) R w wc)
    case first =>
      go_region_law (first
        | (refine step_append_src rfl _ _ rfl Try.entT rfl oZ rfl s1 M1.out M2.out ?_; intro a5 c5 w5 o5 k5; have o5z := slc_plus o5; have q5 := (o5.up 1).cell 1)
        | (refine step_append_src rfl _ _ rfl Try.entT rfl o5z rfl (HP2.out _ _ _ _ (.inl rfl) (o5z.up 2)) M3.out M4.out ?_; intro a6 c6 w6 o6 k6; have q6 := (o6.up 1).cell 1; have qf6 := (o6.up 1).frozen; have ql6 := (o6.up 1).celLt))
      all_goals go_wp2
      all_goals go_meet
      all_goals (have k7 := Calm.trans k5 k6; exact rem_mid HC2.out.symm o6 ⟨k7.os, k7.tape, k7.output⟩)
    case rest =>
      obtain ⟨o7, k7⟩ := hcut
      clear s1 oZ
      go_wp2
      go_ret2
      exact ⟨rfl, o7, k7⟩
end
end Go.Proofs.Ytaphomilgoobiaa
