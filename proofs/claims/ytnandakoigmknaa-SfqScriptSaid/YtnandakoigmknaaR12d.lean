/- The reference of chapter 12: Least, Select, Cost, Finish. -/
import Derived.Test.YtnandakoigmknaaR12c
namespace Go.Proofs.Ytnandakoigmknaa
open Go.RowKit
open SP
section
variable {P : SP} {W w w' : World} {R : List SP} {b : Nat} {at_ now aw : Int} {L O : List Tg}
theorem leastN_one : ∀ {L : List Tg}, L ≠ [] → leastG L (L.drop 1) 1 0 = leastN L
  | [], h => absurd rfl h
  | t0 :: L0, _ => by
    unfold leastN
    conv => rhs; unfold leastG
    rw [if_neg (by show ¬ t0.s < t0.s; omega)]
    rfl
set_option maxHeartbeats 3200000 in
set_option maxRecDepth 100000 in
theorem leastT_spec {Sp : SP} {L : List Tg} {a : Option Addr} {n c : Nat} (hS : TagsAt Sp a L) (hok : LOk L) (hn : n = L.length) (o : Own w (Sp :: R)) :
    Calls Try.prog 82 #[.slice a n c] w (Ret (.int .i64 (if L = [] then -1 else (leastN L : Int))) (Sp :: R) w) := by
  have hv := validT_spec (c := c) hS hok hn o
  by_cases hz : L = []
  · rw [if_pos hz]
    have hn0 : n = 0 := by rw [hn, hz]; rfl
    subst hn0
    clear hn hz
    go_enter Try.func82, Try.ntmps82
    go_wp2_with fail
    refine hv.mono ?_
    rintro e w1 ⟨rfl, o1, k1⟩
    go_wp2
    go_ret
    exact ⟨rfl, o1, k1⟩
  · rw [if_neg hz]
    have hpos : 0 < n := by rw [hn]; exact List.length_pos_iff.2 hz
    have hl := hok.len
    have hn2 : n ≤ 32 := by omega
    have hT0 := leastN_one hz
    generalize leastN L = T at *
    have HT0 := Lib.hid hT0
    have Hn := Lib.hid hn
    have hnb : ((n : Int) == 0) = false := by rw [beq_eq_false_iff_ne]; omega
    clear hn hz hT0
    go_enter Try.func82, Try.ntmps82
    go_wp2_with fail
    refine hv.mono ?_
    rintro e w1 ⟨rfl, o1, k1⟩
    have hT : LeastRelT L T Sp R w (.int .i64 0) (.int .i64 1) w1 := ⟨1, 0, rfl, rfl, by have := Hn.out; omega, by have := Hn.out; omega, HT0.out, o1, k1⟩
    go_wp2
    go_loopw [3, 4] (fun v3 v4 wr => LeastRelT L T Sp R w v3 v4 wr) (fun _ v4 _ => n - (intOf v4).toNat)
    case atStart => exact hT
    case round =>
      clear hT hv
      obtain ⟨i, best, rfl, rfl, hi, hb, hE, oR, kR⟩ := hrel
      have HT := Lib.hid hE
      clear hE
      by_cases hlt : i < n
      · obtain ⟨t, ht⟩ : ∃ t, L[i]? = some t := ⟨_, List.getElem?_eq_getElem (by have := Hn.out; omega)⟩
        obtain ⟨u, hu⟩ : ∃ u, L[best]? = some u := ⟨_, List.getElem?_eq_getElem (by have := Hn.out; omega)⟩
        obtain ⟨g, so, rfl, d0, d1, d2⟩ := hS _ _ oR i _ ht
        obtain ⟨g', so', hgg, _, _, e2⟩ := hS _ _ oR best _ hu
        cases hgg
        have hstep : leastG L (L.drop i) i best = leastG L (L.drop (i + 1)) (i + 1) (if t.s < u.s then i else best) := by
          rw [drop_at ht, leastG, List.getD_eq_getElem?_getD, hu]; rfl
        have Hstep := Lib.hid hstep
        have hbn : best < n := by have := Hn.out; omega
        obtain ⟨x, y, z⟩ := t
        obtain ⟨x', y', z'⟩ := u
        dsimp only at d0 d1 d2 e2 Hstep
        clear ht hu hstep
        by_cases hc : z < z'
        · have hd : decide (z < z') = true := by simpa using hc
          go_wp2
          go_quiet (fail)
          go_wp2
          go_roundw
          case rel => exact ⟨i + 1, i, by go_num, rfl, by have := Hn.out; omega, by have := Hn.out; omega, by rw [← HT.out, Hstep.out, if_pos hc], oR.drewN _, ⟨kR.os, kR.tape, kR.output⟩⟩
          case measure => simp [intOf]; omega
        · have hd : decide (z < z') = false := by simpa using hc
          go_wp2
          go_quiet (fail)
          go_wp2
          go_roundw
          case rel => exact ⟨i + 1, best, by go_num, rfl, by have := Hn.out; omega, hb, by rw [← HT.out, Hstep.out, if_neg (by omega)], oR.drewN _, ⟨kR.os, kR.tape, kR.output⟩⟩
          case measure => simp [intOf]; omega
      · go_wp2
        go_ret
        have hbT : best = T := by rw [← HT.out, List.drop_eq_nil_of_le (by have := Hn.out; omega)]; rfl
        exact ⟨by rw [hbT]; rfl, oR, kR⟩
set_option maxHeartbeats 1600000 in
set_option maxRecDepth 100000 in
theorem selectT_spec (hok : LOk L) (o : Own w (RefT P b at_ L O now aw :: P :: R)) :
    Calls Try.prog 65 #[.pointer (some ⟨b, 0, none⟩)] w (Ret (.tuple #[.int .i64 (selT L).1, .int .i64 (selT L).2]) (RefT P b at_ L O now aw :: P :: R) w) := by
  obtain ⟨a, c, a2, c2, ⟨⟨hP, hs⟩, hc, hP2⟩, o1⟩ := RefT.iff.1 o
  have c1 := o1.cell 1
  have hle := leastT_spec (c := c) hP hok rfl (o1.up 1)
  have hl := hok.len
  by_cases hz : L = []
  · rw [if_pos hz] at hle
    have e : selT L = (0, 5) := if_pos hz
    rw [e]; clear e hz
    go_enter Try.func65, Try.ntmps65
    go_wp2_with fail
    refine hle.mono ?_
    rintro e w1 ⟨rfl, o2, k2⟩
    go_wp2
    go_ret2
    exact ⟨rfl, RefT.iff.2 ⟨a, c, a2, c2, ⟨⟨hP, hs⟩, hc, hP2⟩, o2.re [1, 0]⟩, k2⟩
  · rw [if_neg hz] at hle
    have e : selT L = ((lst L).f, 0) := if_neg hz
    rw [e]; clear e
    have hlt := leastN_lt hz
    have hg : L[leastN L]? = some (lst L) := by
      unfold lst
      rw [List.getD_eq_getElem?_getD, List.getElem?_eq_getElem hlt]; rfl
    generalize leastN L = T at *
    generalize lst L = tt at *
    obtain ⟨x, y, z⟩ := tt
    clear hz
    go_enter Try.func65, Try.ntmps65
    go_wp2_with fail
    refine hle.mono ?_
    rintro e w1 ⟨rfl, o2, k2⟩
    obtain ⟨g, so, hag, d0, d1, d2⟩ := hP _ _ o2 T _ hg
    subst hag
    dsimp only at d0 d1 d2
    have q1 := (o2.up 1).cell 1
    clear hg
    go_wp2
    go_ret2
    exact ⟨rfl, RefT.iff.2 ⟨_, c, a2, c2, ⟨⟨hP, hs⟩, hc, hP2⟩, o2.re [1, 0]⟩, k2⟩
set_option maxHeartbeats 1600000 in
theorem costT_spec (len wt : Int) (h1 : 1 ≤ len ∧ len ≤ 4096) (h2 : 1 ≤ wt ∧ wt ≤ 16) (w : World) : Calls Try.prog 71 #[.int .i64 len, .int .i64 wt] w (IsRet (.tuple #[.int .i64 (cst len wt), .int .i64 0]) w) := by
  have hw := goodW_spec wt w
  have hd : decide (1 ≤ wt ∧ wt ≤ 16) = true := by simp; exact h2
  rw [hd] at hw
  obtain ⟨a1, a2⟩ := h1
  obtain ⟨b1, b2⟩ := h2
  obtain ⟨c1, c2⟩ := cst_range b1 b2 a1 a2
  obtain ⟨u1, u2⟩ := unit1_range b1 b2
  have hq : IntKind.i64.wrap (Int.tdiv 720720 wt) = unit1 wt := by
    show IntKind.i64.wrap (unit1 wt) = unit1 wt
    rw [IntKind.wrap_i64]; omega
  have hm : IntKind.i64.wrap (len * unit1 wt) = cst len wt := by
    show IntKind.i64.wrap (cst len wt) = cst len wt
    rw [IntKind.wrap_i64]; omega
  have hz : wt ≠ 0 := by omega
  clear hd
  go_enter Try.func71, Try.ntmps71
  go_wp2_with fail
  refine hw.mono ?_
  rintro e1 w1 ⟨rfl, rfl⟩
  go_wp2
  go_ret2
  exact ⟨rfl, rfl⟩
set_option maxHeartbeats 1600000 in
theorem finishT_spec (s len wt : Int) (h1 : 1 ≤ len ∧ len ≤ 4096) (h2 : 1 ≤ wt ∧ wt ≤ 16) (hs : 0 ≤ s ∧ s ≤ 1099511627776) (w : World) :
    Calls Try.prog 81 #[.int .i64 s, .int .i64 len, .int .i64 wt] w (IsRet (.tuple #[.int .i64 (finF s len wt).1, .int .i64 (finF s len wt).2]) w) := by
  have hc := costT_spec len wt h1 h2 w
  obtain ⟨c1, c2⟩ := cst_range h2.1 h2.2 h1.1 h1.2
  have hb : ¬ (badLW len wt ∨ s < 0 ∨ 1099511627776 < s) := by unfold badLW; omega
  obtain ⟨s1, s2⟩ := hs
  unfold finF
  rw [if_neg hb]
  generalize cst len wt = z at *
  clear hb h1 h2
  have hw : IntKind.i64.wrap (s + z) = s + z := by rw [IntKind.wrap_i64]; omega
  by_cases h3 : 1099511627776 < s + z
  · rw [if_pos h3]
    go_enter Try.func81, Try.ntmps81
    go_wp2_with fail
    refine hc.mono ?_
    rintro e1 w1 ⟨rfl, rfl⟩
    go_wp2
    go_ret2
    exact ⟨rfl, rfl⟩
  · rw [if_neg h3]
    go_enter Try.func81, Try.ntmps81
    go_wp2_with fail
    refine hc.mono ?_
    rintro e1 w1 ⟨rfl, rfl⟩
    go_wp2
    go_ret2
    exact ⟨rfl, rfl⟩
end
end Go.Proofs.Ytnandakoigmknaa
