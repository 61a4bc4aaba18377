/- The reference of chapter 4: Entries. -/
import Derived.Test.YtaphomilgoobiaaRef4e
namespace Go.Proofs.Ytaphomilgoobiaa
open Go.RowKit
open SP
section
variable {W w w' : World} {b : Nat} {cap : Int} {L : List (Int × Int)} {R : List SP}
def EnRel (b : Nat) (cap : Int) (L : List (Int × Int)) (R : List SP) (w : World) (v3 v4 : Value) (wr : World) : Prop :=
  ∃ (i : Nat) (a : Option Addr) (c : Nat), v3 = .slice a i c ∧ v4 = .int .i64 (i : Int) ∧ i ≤ L.length ∧
    Own wr (slc 41 2 a i c (flat ent (sortE (L.take i))) :: RefH b cap L :: R) ∧ Calm w wr
def InRel (b : Nat) (cap : Int) (L Out : List (Int × Int)) (x : Int × Int) (i : Nat) (a : Option Addr) (c : Nat) (R : List SP) (w : World) (v5 : Value) (wr : World) : Prop :=
  ∃ (k : Nat), v5 = .int .i64 (k : Int) ∧ k ≤ i ∧ (∀ j z, j < k → Out[j]? = some z → ¬ leE x z) ∧
    Own wr (slc 41 2 a i c (flat ent Out) :: RefH b cap L :: R) ∧ Calm w wr
def InEnd (b : Nat) (cap : Int) (L Out : List (Int × Int)) (x : Int × Int) (i : Nat) (a : Option Addr) (c : Nat) (R : List SP) (w : World) (v5 : Value) (wr : World) : Prop :=
  ∃ (k : Nat), v5 = .int .i64 (k : Int) ∧ k ≤ i ∧ (∀ j z, j < k → Out[j]? = some z → ¬ leE x z) ∧ (∀ z, Out[k]? = some z → leE x z) ∧
    Own wr (slc 41 2 a i c (flat ent Out) :: RefH b cap L :: R) ∧ Calm w wr
set_option maxHeartbeats 3200000 in
set_option maxRecDepth 100000 in
theorem entriesR_spec (hL : L.length ≤ 900000) (o : Own w (RefH b cap L :: R)) :
    Calls Try.prog 22 #[.pointer (some ⟨b, 0, none⟩)] w fun e w' => ∃ a c, Ret (.slice a L.length c) (slc 41 2 a L.length c (flat ent (sortE L)) :: RefH b cap L :: R) w e w' := by
  have hT : EnRel b cap L R w (.slice none 0 0) (.int .i64 0) w := ⟨0, none, 0, rfl, rfl, by omega, by simpa [sortE, flat] using o.slc_nil (e := 41) (size := 2), Calm.refl w⟩
  go_enter Try.func22, Try.ntmps22
  go_wp2
  go_loopw [3, 4] (fun v3 v4 wr => EnRel b cap L R w v3 v4 wr) (fun _ v4 _ => L.length - (intOf v4).toNat)
  case atStart => exact hT
  case round =>
    clear hT
    obtain ⟨i, a, c, rfl, rfl, hi, oR, kR⟩ := hrel
    obtain ⟨a1, c1, o1⟩ := RefH.iff.1 (oR.up 1)
    have d1 := o1.cell 1
    by_cases hlt : i < L.length
    · obtain ⟨x, hx⟩ : ∃ x, L[i]? = some x := ⟨_, List.getElem?_eq_getElem hlt⟩
      obtain ⟨Out, hO⟩ : ∃ Out, Out = sortE (L.take i) := ⟨_, rfl⟩
      rw [← hO] at oR
      have hOl : Out.length = i := by rw [hO, sortE_len, List.length_take]; omega
      have HO := Lib.hid hO
      have HX := Lib.hid hx
      have HOL := Lib.hid hOl
      clear hO hx hOl o1
      go_upto_block 2 with fail
      go_cut [5] (fun v5 wc => InEnd b cap L Out x i a c R w v5 wc)
      case first =>
        go_wp2
        go_loopw [5] (fun v5 wr => InRel b cap L Out x i a c R w v5 wr) (fun v5 _ => i - (intOf v5).toNat)
        case atStart => exact ⟨0, rfl, by omega, fun j z hj => by omega, oR, kR⟩
        case round =>
          clear oR kR d1
          obtain ⟨k, rfl, hk, hlk, oK, kK⟩ := hrel
          obtain ⟨a2, c2, o2⟩ := RefH.iff.1 (oK.up 1)
          have e1 := o2.cell 1
          by_cases hki : k < i
          · obtain ⟨z, hz⟩ : ∃ z, Out[k]? = some z := ⟨_, List.getElem?_eq_getElem (by rw [HOL.out]; exact hki)⟩
            obtain ⟨g, hg, f0, f1, -, -⟩ := ent_cells oK hz (by omega)
            subst hg
            obtain ⟨g2, hg2, q0, q1, -, -⟩ := ent_cells (o2.up 1) HX.out (by omega)
            subst hg2
            have HZ := Lib.hid hz
            clear hz
            by_cases hl : lessB z x = true
            · go_wp2
              refine wp_region_tail 16 (by kernel_rfl) (by kernel_rfl) ?_
              simp only [List.take_succ_cons, List.take_zero, List.drop_succ_cons, List.drop_zero]
              repeat still_step
              refine wpStill_nil ?_
              go_wp2_with fail
              refine (less_spec z x oK.drew).mono ?_
              rintro e3 w3 ⟨rfl, o3, k3⟩
              rw [hl]
              go_wp2
              go_roundw
              case rel =>
                refine ⟨k + 1, by go_num, by omega, fun j v hj hv => ?_, o3, kK.trans ⟨k3.os, k3.tape, k3.output⟩⟩
                by_cases hjk : j = k
                · subst hjk; rw [HZ.out] at hv; cases hv; exact (lessB_iff z x).1 hl
                · exact hlk j v (by omega) hv
              case measure => simp [intOf]; omega
            · have hl2 : lessB z x = false := by simpa using hl
              go_wp2
              refine wp_region_tail 16 (by kernel_rfl) (by kernel_rfl) ?_
              simp only [List.take_succ_cons, List.take_zero, List.drop_succ_cons, List.drop_zero]
              repeat still_step
              refine wpStill_nil ?_
              go_wp2_with fail
              refine (less_spec z x oK.drew).mono ?_
              rintro e3 w3 ⟨rfl, o3, k3⟩
              rw [hl2]
              go_wp2
              go_meet
              exact ⟨k, rfl, by omega, hlk, fun v hv => by rw [HZ.out] at hv; cases hv; exact Classical.byContradiction fun hn => hl ((lessB_iff z x).2 hn), o3, kK.trans ⟨k3.os, k3.tape, k3.output⟩⟩
          · have hkI : ¬ ((k : Int) < (i : Int)) := by omega
            go_wp2
            go_quiet (fail)
            go_wp2
            go_meet
            exact ⟨k, rfl, by omega, hlk, fun v hv => by have := (List.getElem?_eq_some_iff.1 hv).1; rw [HOL.out] at this; omega, oK.drewN _, kK.trans ⟨rfl, rfl, rfl⟩⟩
      case rest =>
        clear oR d1 kR
        obtain ⟨k, rfl, hk, hlk, hlk2, oK, kK⟩ := hcut
        have hins := insE HO.out HX.out hlk hlk2
        have HI := Lib.hid hins
        clear hins hlk hlk2
        obtain ⟨a2, c2, o2⟩ := RefH.iff.1 (oK.up 1)
        have e1 := o2.cell 1
        have el := o2.celLt
        obtain ⟨g2, hg2, q0, q1, -, gl2⟩ := ent_cells (o2.up 1) HX.out (by omega)
        subst hg2
        have src0 : ∀ (w : World) (a : Option Addr) (c' : Nat), IsSrc w (.slice a 0 c') 2 0 [] := fun w a c' => ⟨a, c', rfl, by simp, by simp, .inl rfl⟩
        have SRC := Lib.hid src0
        clear src0
        have oZ := slc_zero (e := 41) (size := 2) ((oK.alloc (.cells #[] 41)))
        rcases Own.slc.1 oK with ⟨rfl, hi0, hc0, -, -⟩ | ⟨g, sp, rfl, hic, hcm, -, -, -⟩
        · subst hi0
          subst hc0
          obtain rfl : k = 0 := by omega
          have hOn : Out = [] := List.eq_nil_of_length_eq_zero HOL.out
          subst hOn
          go_wp2_with (at_builtin; refine wpList_append_src rfl _ _ rfl Try.entT rfl oZ rfl (SRC.out _ _ _) (by unfold maxLen; omega) (by omega) ?k1)
          case k1 =>
          intro a5 c5 w5 o5 k5
          obtain ⟨a6, c6, o6⟩ := RefH.iff.1 (o5.up 2)
          have q2 := o6.cell 1
          obtain ⟨g6, hg6, r0, r1, -, -⟩ := ent_cells (o6.up 1) HX.out (by omega)
          subst hg6
          have oN := (o5.alloc (.cells #[.int .i64 x.1, .int .i64 x.2] 41)).re [1, 0, 2, 3]
          have hnw := Own.news (T := 41) (vs := [.int .i64 x.1, .int .i64 x.2]) (o5.alloc _)
          go_wp2_with (at_builtin; refine wpList_append_slc rfl _ _ rfl Try.entT rfl oN ⟨w5.heap.size, 0, none⟩ 1 1 [.int .i64 x.1, .int .i64 x.2] rfl rfl hnw (by intro u hu; simp at hu; rcases hu with rfl | rfl <;> rfl) (by unfold maxLen; omega) (by omega) ?k2)
          case k2 =>
          intro a7 c7 w7 o7 k7
          go_wp2_with (at_builtin; refine wpList_append_src rfl _ _ rfl Try.entT rfl o7 rfl (SRC.out _ _ _) (by unfold maxLen; omega) (by omega) ?k3)
          case k3 =>
          intro a8 c8 w8 o8 k8
          have hfl : flat ent (sortE (L.take (0 + 1))) = [.int .i64 x.1, .int .i64 x.2] := by
            rw [← HI.out]; rfl
          go_wp2
          go_roundw
          case rel => exact ⟨0 + 1, a8, c8, rfl, by go_num, by omega, by rw [hfl]; exact o8.re [1, 2, 0, 3] 2, kK.trans (Calm.trans ⟨k5.os, k5.tape, k5.output⟩ (k7.al.trans k8))⟩
          case measure => simp [intOf]; omega
        · have b0 : (0 : Int) ≤ (k : Int) := by omega
          have b1 : (k : Int) ≤ (c : Int) := by omega
          have b1' : k ≤ c := by omega
          have b2 : (k : Int) ≤ (i : Int) := by omega
          have s1 := ent_cut (L := Out) (n := i) (c := c) (i := 0) (k := k) (c' := c) HOL.out.symm (by rw [HOL.out]; omega) (oZ.up 1)
          rw [Nat.zero_mul, List.drop_zero] at s1
          by_cases hkc : k = c
          · subst hkc
            obtain rfl : k = i := by omega
            go_wp2_with (at_builtin; refine wpList_append_src rfl _ _ rfl Try.entT rfl oZ rfl s1 (by unfold maxLen; omega) (by omega) ?k1)
            case k1 =>
            intro a5 c5 w5 o5 k5
            have o5z := o5
            obtain ⟨a6, c6, o6⟩ := RefH.iff.1 (o5z.up 2)
            have q2 := o6.cell 1
            obtain ⟨g6, hg6, r0, r1, -, -⟩ := ent_cells (o6.up 1) HX.out (by omega)
            subst hg6
            have oN := (o5z.alloc (.cells #[.int .i64 x.1, .int .i64 x.2] 41)).re [1, 0, 2, 3]
            have hnw := Own.news (T := 41) (vs := [.int .i64 x.1, .int .i64 x.2]) (o5z.alloc _)
            go_wp2_with (at_builtin; refine wpList_append_slc rfl _ _ rfl Try.entT rfl oN ⟨w5.heap.size, 0, none⟩ 1 1 [.int .i64 x.1, .int .i64 x.2] rfl rfl hnw (by intro u hu; simp at hu; rcases hu with rfl | rfl <;> rfl) (by unfold maxLen; omega) (by omega) ?k2)
            case k2 =>
            intro a7 c7 w7 o7 k7
            go_wp2_with (at_builtin; refine wpList_append_src rfl _ _ rfl Try.entT rfl o7 rfl (SRC.out _ _ _) (by unfold maxLen; omega) (by omega) ?k3)
            case k3 =>
            intro a8 c8 w8 o8 k8
            have hfl : flat ent (sortE (L.take (k + 1))) = flat ent (Out.take k) ++ [.int .i64 x.1, .int .i64 x.2] := by
              rw [← HI.out, List.drop_eq_nil_of_le (by rw [HOL.out]; omega), List.append_nil, flat_append]; rfl
            rw [← hfl] at o8
            have hnum : k + 1 + 0 = k + 1 := by omega
            rw [hnum] at o8 ⊢
            clear hfl hnum
            go_wp2
            go_roundw
            case rel => exact ⟨k + 1, a8, c8, rfl, by go_num, by omega, o8.re [1, 2, 0, 3] 2, kK.trans (Calm.trans ⟨k5.os, k5.tape, k5.output⟩ (k7.al.trans k8))⟩
            case measure => simp [intOf]; omega
          · have hkc1 : ((k : Int) == (c : Int)) = false := by rw [beq_eq_false_iff_ne]; omega
            have hkc2 : ¬ c = k := by omega
            have hkc3 : ¬ k = c := hkc
            have hdr : (Out.drop k).take (i - k) = Out.drop k := List.take_of_length_le (by rw [List.length_drop, HOL.out]; omega)
            go_wp2_with (at_builtin; refine wpList_append_src rfl _ _ rfl Try.entT rfl oZ rfl s1 (by unfold maxLen; omega) (by omega) ?k1)
            case k1 =>
            intro a5 c5 w5 o5 k5
            have o5z := o5
            obtain ⟨a6, c6, o6⟩ := RefH.iff.1 (o5z.up 2)
            have q2 := o6.cell 1
            obtain ⟨g6, hg6, r0, r1, -, -⟩ := ent_cells (o6.up 1) HX.out (by omega)
            subst hg6
            have oN := (o5z.alloc (.cells #[.int .i64 x.1, .int .i64 x.2] 41)).re [1, 0, 2, 3]
            have hnw := Own.news (T := 41) (vs := [.int .i64 x.1, .int .i64 x.2]) (o5z.alloc _)
            go_wp2_with (at_builtin; refine wpList_append_slc rfl _ _ rfl Try.entT rfl oN ⟨w5.heap.size, 0, none⟩ 1 1 [.int .i64 x.1, .int .i64 x.2] rfl rfl hnw (by intro u hu; simp at hu; rcases hu with rfl | rfl <;> rfl) (by unfold maxLen; omega) (by omega) ?k2)
            case k2 =>
            intro a7 c7 w7 o7 k7
            have s2 := ent_cut (L := Out) (n := i) (c := c) (i := k) (k := i - k) (c' := c - k) HOL.out.symm (by rw [HOL.out]; omega) (o7.up 2)
            go_wp2_with (at_builtin; refine wpList_append_src rfl _ _ rfl Try.entT rfl o7 rfl s2 (by unfold maxLen; omega) (by omega) ?k3)
            case k3 =>
            intro a8 c8 w8 o8 k8
            have hfl : flat ent (sortE (L.take (i + 1))) = flat ent (Out.take k) ++ .int .i64 x.1 :: .int .i64 x.2 :: flat ent (Out.drop k) := by
              rw [← HI.out, flat_append, flat_append, List.append_assoc]; rfl
            rw [← hfl] at o8
            have hnum : k + 1 + (i - k) = i + 1 := by omega
            rw [hnum] at o8 ⊢
            clear hfl hnum
            go_wp2
            go_roundw
            case rel => exact ⟨i + 1, a8, c8, rfl, by go_num, by omega, o8.re [1, 2, 0, 3] 2, kK.trans (Calm.trans ⟨k5.os, k5.tape, k5.output⟩ (k7.al.trans k8))⟩
            case measure => simp [intOf]; omega
    · have hin : i = L.length := by omega
      subst hin
      rw [List.take_length] at oR
      go_wp2
      go_ret
      exact ⟨a, c, rfl, oR, kR⟩
end
end Go.Proofs.Ytaphomilgoobiaa
