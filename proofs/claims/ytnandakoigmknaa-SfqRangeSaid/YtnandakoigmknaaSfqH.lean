/- The law SfqRange: the walk; equal lists of tags. -/
import Derived.Test.YtnandakoigmknaaSfqW
namespace Go.Proofs.Ytnandakoigmknaa
open Go.RowKit
open SP
section
variable {W w w' : World} {R : List SP} {b : Nat} {reb : Int} {S : St}

def EqTRel (L L' : List Tg) (w : World) (v : Value) (wr : World) : Prop :=
  ∃ (i m : Nat), v = .int .i64 (i : Int) ∧ i ≤ L.length ∧ L.take i = L'.take i ∧ wr = w.drewN m

def EqTPost (L L' : List Tg) (w : World) (e : Ending) (w' : World) : Prop := e = .returned (.bool (decide (L = L'))) ∧ ∃ m, w' = w.drewN m

set_option maxHeartbeats 3200000 in
set_option maxRecDepth 100000 in
theorem equalT_spec {S1 S2 : SP} {L L' : List Tg} {a a' : Option Addr} {n n' c c' : Nat} {R1 R2 : List SP} (h1 : TagsAt S1 a L) (h2 : TagsAt S2 a' L') (hn : n = L.length) (hn' : n' = L'.length) (hl : n ≤ 1000) (o1 : Own w (S1 :: R1)) (o2 : Own w (S2 :: R2)) :
    Calls Try.prog 32 #[.slice a n c, .slice a' n' c'] w (EqTPost L L' w) := by
  by_cases hne : n = n'
  · subst hne
    have hT : EqTRel L L' w (.int .i64 0) w := ⟨0, 0, rfl, by omega, rfl, rfl⟩
    have Hn := Lib.hid hn
    have Hn' := Lib.hid hn'
    clear hn hn'
    go_enter Try.func32, Try.ntmps32
    go_wp2
    go_loopw [5] (fun v wr => EqTRel L L' w v wr) (fun v _ => n - (intOf v).toNat)
    case atStart => exact hT
    case round =>
      clear hT
      obtain ⟨i, m, rfl, hi, htk, rfl⟩ := hrel
      have HTK := Lib.hid htk
      clear htk
      by_cases hlt : i < n
      · obtain ⟨t, ht⟩ : ∃ t, L[i]? = some t := ⟨_, List.getElem?_eq_getElem (by have := Hn.out; omega)⟩
        obtain ⟨u, hu⟩ : ∃ u, L'[i]? = some u := ⟨_, List.getElem?_eq_getElem (by have := Hn'.out; omega)⟩
        obtain ⟨g, so, rfl, d0, d1, d2⟩ := h1 _ _ o1 i _ ht
        obtain ⟨g', so', rfl, e0, e1, e2⟩ := h2 _ _ o2 i _ hu
        have HT := Lib.hid ht
        have HU := Lib.hid hu
        clear ht hu
        by_cases htu : t = u
        · subst htu
          go_wp2
          go_quiet (fail)
          go_wp2
          go_roundw
          case rel => exact ⟨i + 1, _, by go_num, by have := Hn.out; omega, by rw [List.take_add_one, List.take_add_one, HT.out, HU.out, HTK.out], rfl⟩
          case measure => simp [intOf]; omega
        · have hne : ¬ (t.f = u.f ∧ t.w = u.w ∧ t.s = u.s) := fun ⟨h1, h2, h3⟩ => htu (by cases t; cases u; simp_all)
          have hd : decide (L = L') = false := by
            rw [decide_eq_false_iff_not]
            rintro rfl
            have h1 := HT.out
            rw [HU.out] at h1
            exact htu (by simpa using h1.symm)
          have HD := Lib.hid hd
          obtain ⟨x, y, z⟩ := t
          obtain ⟨x', y', z'⟩ := u
          dsimp only at d0 d1 d2 e0 e1 e2 hne
          clear htu hd
          by_cases hx : x = x'
          · subst hx
            by_cases hy : y = y'
            · subst hy
              have hz : (z == z') = false := by rw [beq_eq_false_iff_ne]; exact fun e => hne ⟨rfl, rfl, e⟩
              clear hne
              go_wp2
              go_quiet (fail)
              go_wp2
              go_ret
              exact ⟨by rw [HD.out]; rfl, _, World.drewN_drewN _ _ _⟩
            · have hyb : (y == y') = false := by rw [beq_eq_false_iff_ne]; exact hy
              clear hne hy
              go_wp2
              go_quiet (fail)
              go_wp2
              go_ret
              exact ⟨by rw [HD.out]; rfl, _, World.drewN_drewN _ _ _⟩
          · have hxb : (x == x') = false := by rw [beq_eq_false_iff_ne]; exact hx
            clear hne hx
            go_wp2
            go_quiet (fail)
            go_wp2
            go_ret
            exact ⟨by rw [HD.out]; rfl, _, World.drewN_drewN _ _ _⟩
      · have hd : decide (L = L') = true := by
          rw [decide_eq_true_iff]
          have h1 := HTK.out
          rw [List.take_of_length_le (by have := Hn.out; omega), List.take_of_length_le (by have := Hn'.out; omega)] at h1
          exact h1
        have HD := Lib.hid hd
        clear hd
        go_wp2
        go_ret
        exact ⟨by rw [HD.out]; rfl, _, rfl⟩
  · have hd : decide (L = L') = false := by
      rw [decide_eq_false_iff_not]
      rintro rfl
      omega
    have HD := Lib.hid hd
    have hb : ((n : Int) == (n' : Int)) = false := by rw [beq_eq_false_iff_ne]; omega
    have hb2 : ((n : Int) != (n' : Int)) = true := by rw [bne_iff_ne]; omega
    clear hn hn' hd
    go_enter Try.func32, Try.ntmps32
    go_wp2
    go_ret
    exact ⟨by rw [HD.out]; rfl, 0, rfl⟩

/-! ### SfqRange -/
def oldR (wt : Int) : Int → Int := (joinR (joinR St0 0 wt).2 1 16).2.old
def stR (wt s tm : Int) : St := ⟨[⟨0, wt, s⟩, ⟨1, 16, 0⟩], oldR wt, tm, 0⟩
theorem stR_join {wt : Int} (h1 : 1 ≤ wt) (h2 : wt ≤ 16) : (joinR ⟨[], fun _ => 0, 0, 0⟩ 0 wt).1 = 0 ∧ (joinR (joinR ⟨[], fun _ => 0, 0, 0⟩ 0 wt).2 1 16).1 = 0 ∧ (joinR (joinR ⟨[], fun _ => 0, 0, 0⟩ 0 wt).2 1 16).2 = stR wt 0 0 := by
  have : wt = 1 ∨ wt = 2 ∨ wt = 3 ∨ wt = 4 ∨ wt = 5 ∨ wt = 6 ∨ wt = 7 ∨ wt = 8 ∨ wt = 9 ∨ wt = 10 ∨ wt = 11 ∨ wt = 12 ∨ wt = 13 ∨ wt = 14 ∨ wt = 15 ∨ wt = 16 := by omega
  rcases this with rfl | rfl | rfl | rfl | rfl | rfl | rfl | rfl | rfl | rfl | rfl | rfl | rfl | rfl | rfl | rfl <;> exact ⟨by decide, by decide, by rfl⟩
theorem stR_lst (wt s tm : Int) : byS (stR wt s tm) ≤ 0 := by
  have : (lst (stR wt s tm).L).s ≤ 0 := lst_min (t := ⟨1, 16, 0⟩) (by simp [stR])
  unfold byS; omega
theorem stR_charge {wt s tm : Int} (h1 : 1 ≤ wt) (h2 : wt ≤ 16) (hs : 0 ≤ s) :
    (s + 4096 * unit1 wt ≤ 1099511627776 → chargeR 1099511627776 (stR wt s tm) 0 4096 = (0, stR wt (s + 4096 * unit1 wt) (max tm s))) ∧
    (1099511627776 < s + 4096 * unit1 wt → s ≤ 1099511627776 → chargeR 1099511627776 (stR wt s tm) 0 4096 = (2, stR wt s tm)) := by
  have hg : fget (stR wt s tm).L 0 = some ⟨0, wt, s⟩ := rfl
  have hb : ¬ badLW 4096 wt := by unfold badLW; omega
  have hc : cst 4096 wt = 4096 * unit1 wt := rfl
  have hu := unit1_range h1 h2
  constructor
  · intro h
    have hf : finF s 4096 wt = (s + 4096 * unit1 wt, 0) := by unfold finF; rw [if_neg (by rintro (h | h | h); exact hb h; omega; omega), if_neg (by omega), hc]
    rw [chargeR_ok hg hf]
    have he : chS (stR wt s tm) ⟨0, wt, s⟩ (s + 4096 * unit1 wt) = stR wt (s + 4096 * unit1 wt) (max tm s) := by rfl
    rw [he, rebS, if_pos (by have := stR_lst wt (s + 4096 * unit1 wt) (max tm s); omega)]
  · intro h h'
    have hf : finF s 4096 wt = (0, 2) := by unfold finF; rw [if_neg (by rintro (h | h | h); exact hb h; omega; omega), if_pos (by omega)]
    rw [chargeR_err hg (by rw [hf]; simp)]
    show ((finF s 4096 wt).2, _) = _
    rw [hf]
theorem stR_charge1 {wt s tm len : Int} (hl : 1 ≤ len ∧ len ≤ 4096) : ∃ S', chargeR 1099511627776 (stR wt s tm) 1 len = (0, S') := by
  have hg : fget (stR wt s tm).L 1 = some ⟨1, 16, 0⟩ := rfl
  have hc := cst_range (wt := 16) (len := len) (by omega) (by omega) hl.1 hl.2
  have hf : finF 0 len 16 = (cst len 16, 0) := by unfold finF badLW; rw [if_neg (by omega), if_neg (by omega), Int.zero_add]
  exact ⟨_, chargeR_ok hg hf⟩
theorem most_facts {wt : Int} (h1 : 1 ≤ wt) (h2 : wt ≤ 16) {n most : Int} (hn : n = 4096 * unit1 wt) (hm : most = 1099511627776 / n) :
    0 ≤ most ∧ most ≤ 6000 ∧ most * n ≤ 1099511627776 ∧ 1099511627776 < most * n + n := by
  subst hn hm
  have : wt = 1 ∨ wt = 2 ∨ wt = 3 ∨ wt = 4 ∨ wt = 5 ∨ wt = 6 ∨ wt = 7 ∨ wt = 8 ∨ wt = 9 ∨ wt = 10 ∨ wt = 11 ∨ wt = 12 ∨ wt = 13 ∨ wt = 14 ∨ wt = 15 ∨ wt = 16 := by omega
  rcases this with rfl | rfl | rfl | rfl | rfl | rfl | rfl | rfl | rfl | rfl | rfl | rfl | rfl | rfl | rfl | rfl <;> decide

def RangeRel (W : World) (hb cb : Nat) (wt N most : Int) (v : Value) (wr : World) : Prop :=
  ∃ (i : Nat) (tm : Int), v = .int .i64 (i : Int) ∧ (i : Int) ≤ most ∧ Own wr [SfqR hb 1099511627776 (stR wt (i * N) tm), Ch W cb 0, old W] ∧ Calm W wr

set_option maxHeartbeats 6400000 in
set_option maxRecDepth 100000 in
theorem sfqRange_walk (a0 : Option Addr) (len0 cap0 : Nat) (z0 : List Int) (n : Int) (w : World) (w0 : IsRow .i64 w a0 len0 cap0 z0) (w1 : (Lit.int .u8 n).wf = true) :
    Calls Try.prog 7 #[.slice a0 len0 cap0, .int .u8 n] w fun e w' => e = .returned (.bool true) ∧ Below w.heap.size w w' := by
  have hr8 : 0 ≤ n ∧ n ≤ 255 := by
    simp only [Lit.wf, Bool.and_eq_true, decide_eq_true_eq] at w1
    rw [show IntKind.u8.min = 0 from by decide, show IntKind.u8.max = 255 from by decide] at w1
    exact w1
  obtain ⟨hn0, hn1⟩ := hr8
  clear w1
  have oW := Own.start w
  obtain ⟨m, hm⟩ : ∃ m, n % 16 = m := ⟨_, rfl⟩
  have hm' : Int.tmod n 16 = m := by rw [Int.tmod_eq_emod_of_nonneg hn0]; exact hm
  have hm0 : 0 ≤ m := by omega
  have hm1 : m ≤ 15 := by omega
  obtain ⟨wt, hwt⟩ : ∃ wt, 1 + m = wt := ⟨_, rfl⟩
  have hw1 : 1 ≤ wt := by omega
  have hw2 : wt ≤ 16 := by omega
  obtain ⟨j1, j2, j3⟩ := stR_join hw1 hw2
  have HW := Lib.hid hwt
  obtain ⟨u, hu⟩ : ∃ u, unit1 wt = u := ⟨_, rfl⟩
  have hur := unit1_range hw1 hw2
  rw [hu] at hur
  have e1 : Int.tdiv 720720 wt = u := hu
  have e2 : 720720 / wt = u := by rw [← Int.tdiv_eq_ediv_of_nonneg (by decide)]; exact hu
  obtain ⟨N, hN⟩ : ∃ N, 4096 * u = N := ⟨_, rfl⟩
  have hNr : 184504320 ≤ N ∧ N ≤ 2952069120 := by omega
  obtain ⟨most, hmo⟩ : ∃ most, 1099511627776 / N = most := ⟨_, rfl⟩
  have hmo' : Int.tdiv 1099511627776 N = most := by rw [Int.tdiv_eq_ediv_of_nonneg (by decide)]; exact hmo
  obtain ⟨m1, m2, m3, m4⟩ := most_facts hw1 hw2 (n := N) (by rw [hu]; exact hN.symm) hmo.symm
  have hch : ∀ s tm, 0 ≤ s → (s + N ≤ 1099511627776 → chargeR 1099511627776 (stR wt s tm) 0 4096 = (0, stR wt (s + N) (max tm s))) ∧
      (1099511627776 < s + N → s ≤ 1099511627776 → chargeR 1099511627776 (stR wt s tm) 0 4096 = (2, stR wt s tm)) := fun s tm hs => by
    have := stR_charge (tm := tm) hw1 hw2 hs
    rw [hu, hN] at this
    exact this
  have HCH := Lib.hid hch
  have M3 := Lib.hid m3
  have M4 := Lib.hid m4
  have hz1 : ¬ wt = 0 := by omega
  have hz2 : ¬ N = 0 := by omega
  clear hch m3 m4
  have J1 := Lib.hid j1
  have J2 := Lib.hid j2
  have J3 := Lib.hid j3
  clear j1 j2 j3
  go_enter Try.func7, Try.ntmps7
  go_wp2_with fail
  refine (genNew_spec a0 len0 cap0 z0 w0 oW).mono ?_
  rintro e1 v1 ⟨cb, rfl, o1, k1⟩
  go_wp2_with fail
  refine (sfqNew_spec 1099511627776 (by decide) (by decide) o1).mono ?_
  rintro e2 v2 ⟨hb, rfl, o2, k2⟩
  have s1 := sfqJoin_spec 0 wt o2
  rw [J1.out] at s1
  go_wp2_with fail
  refine s1.mono ?_
  rintro e3 v3 ⟨rfl, o3, k3⟩
  have s2 := sfqJoin_spec 1 16 o3
  rw [J2.out, J3.out] at s2
  clear s1
  go_wp2_with fail
  refine s2.mono ?_
  rintro e4 v4 ⟨rfl, o4, k4⟩
  have hT : RangeRel w hb cb wt N most (.int .i64 0) v4 := ⟨0, 0, rfl, m1, by rw [show ((0 : Nat) : Int) * N = 0 from by simp]; exact o4, k1.trans (k2.trans (k3.trans k4))⟩
  clear s2
  go_wp2
  go_loopw [10] (fun v wr => RangeRel w hb cb wt N most v wr) (fun v _ => 6000 - (intOf v).toNat)
  case atStart => exact hT
  case round =>
    clear hT o4 k4 o3 k3 o2 k2 o1 k1
    obtain ⟨i, tm, rfl, hi, oR, kR⟩ := hrel
    have hiN : 0 ≤ (i : Int) * N := Int.mul_nonneg (by omega) (by omega)
    by_cases hlt : (i : Int) < most
    · have hle : (i : Int) * N + N ≤ 1099511627776 := by
        have h1 : ((i : Int) + 1) * N ≤ most * N := Int.mul_le_mul_of_nonneg_right (by omega) (by omega)
        have := M3.out
        rw [Int.add_mul, Int.one_mul] at h1
        omega
      have hc := sfqCharge_as ((HCH.out (i * N) tm hiN).1 hle) (by show 0 ≤ (0 : Int) ∧ (0 : Int) ≤ _; decide) oR
      have hi7 : (i : Int) < 7000 := by omega
      have e3 : (i : Int) * N + N = ((i + 1 : Nat) : Int) * N := by push_cast; rw [Int.add_mul, Int.one_mul]
      rw [e3] at hc
      clear hle e3 hiN
      go_wp2_with fail
      refine hc.mono ?_
      rintro e5 w5 ⟨rfl, o5, k5⟩
      go_wp2
      go_roundw
      case rel => exact ⟨i + 1, _, by go_num, by push_cast; omega, o5, kR.trans k5⟩
      case measure => simp [intOf]; omega
    · have him : (i : Int) = most := by omega
      have hgt : 1099511627776 < (i : Int) * N + N := by rw [him]; exact M4.out
      have hle : (i : Int) * N ≤ 1099511627776 := by rw [him]; exact M3.out
      have hc := fun (w : World) (R : List SP) (o : Own w (SfqR hb 1099511627776 (stR wt (i * N) tm) :: R)) => sfqCharge_as ((HCH.out (i * N) tm hiN).2 hgt hle) (by show 0 ≤ (0 : Int) ∧ (0 : Int) ≤ _; decide) o
      have HC := Lib.hid hc
      have hm7 : ¬ 7000 < most := by omega
      clear hc him hgt hle hiN
      generalize hst : stR wt (i * N) tm = SS at *
      have HST := Lib.hid hst
      clear hst
      go_wp2_with fail
      refine (sfqTags_spec oR).mono ?_
      rintro e5 w5 ⟨a, c, rfl, o5, k5⟩
      go_wp2_with fail
      refine (HC.out _ _ o5.swap).mono ?_
      rintro e6 w6 ⟨rfl, o6, k6⟩
      go_wp2_with fail
      refine (sfqTags_spec o6).mono ?_
      rintro e7 w7 ⟨a', c', rfl, o7, k7⟩
      have hl32 := (SfqR.ok (o7.up 1)).ok.len
      go_wp2_with fail
      refine (equalT_spec (tagsAt_slc a SS.L.length c SS.L rfl) (tagsAt_slc a' SS.L.length c' SS.L rfl) rfl rfl (by omega) (o7.up 2) o7).mono ?_
      rintro e8 w8 ⟨rfl, m8, hw8⟩
      have o8 := o7.drewN m8
      rw [← hw8] at o8
      have k8 : Calm w7 w8 := by rw [hw8]; exact ⟨rfl, rfl, rfl⟩
      have hdt : decide (SS.L = SS.L) = true := by simp
      rw [hdt]
      clear hw8 hdt
      go_wp2_with fail
      refine (length_spec (W := w) (b := cb) 0 (by omega) (o8.re [3, 4, 1])).mono ?_
      rintro e9 w9 ⟨n9, hn1, hn2, rfl, o9, k9⟩
      obtain ⟨S', hS'⟩ := stR_charge1 (wt := wt) (s := i * N) (tm := tm) ⟨hn1, hn2⟩
      rw [HST.out] at hS'
      have hc1 := sfqCharge_as hS' (by rw [← HST.out]; show 0 ≤ (0 : Int) ∧ (0 : Int) ≤ _; decide) (o9.re [2, 0, 1])
      clear hS'
      go_wp2_with fail
      refine hc1.mono ?_
      rintro e10 w10 ⟨rfl, o10, k10⟩
      go_wp2_with fail
      refine (awake13_spec o10).mono ?_
      rintro e11 w11 ⟨rfl, o11, k11⟩
      go_wp2
      go_ret
      exact ⟨rfl, (o11.up 2).below (kR.trans (k5.trans (k6.trans (k7.trans (k8.trans (k9.trans (k10.trans k11)))))))⟩
end
end Go.Proofs.Ytnandakoigmknaa
