/- The law CompSpread: the walk. -/
import Derived.Test.YtnandakoigmknaaCompP
import Derived.StillTailTactics
namespace Go.Proofs.Ytnandakoigmknaa
open Go.RowKit
open SP
section
variable {W w w' : World} {R : List SP} {b : Nat} {reb tm : Int} {el tg : List (Int × Int)}

theorem compTime_still (o : Own w (OrderR b reb el tg tm :: R)) : Calls Try.prog 21 #[.pointer (some ⟨b, 0, none⟩)] w (IsRet (.int .i64 tm) w) := by
  obtain ⟨eb, tb, o1⟩ := OrderR.iff.1 o
  have c3 := o1.cell 3
  go_enter Try.func21, Try.ntmps21
  go_wp2
  go_ret
  exact ⟨rfl, rfl⟩
theorem compTag_still (k : Int) (o : Own w (OrderR b reb el tg tm :: R)) : Calls Try.prog 20 #[.pointer (some ⟨b, 0, none⟩), .int .i64 k] w (IsRet (.int .i64 (tget tg k)) w) := by
  obtain ⟨eb, tb, o1⟩ := OrderR.iff.1 o
  have c2 := o1.cell 2
  have hlk := lookIL tb (o1.up 2) k false
  simp only [Bool.false_eq_true, if_false] at hlk
  go_enter Try.func20, Try.ntmps20
  go_wp2
  go_ret
  exact ⟨rfl, rfl⟩

/-- Serve of the selected flow. -/
def ServOk (sz : Int) (i : Nat) (b : Nat) (reb : Int) (el : List (Int × Int)) (R : List SP) (w : World) (e : Ending) (w' : World) : Prop :=
  ∃ tg' tm', SInv sz (i + 1) el tg' tm' ∧ Ret (.int .i64 0) (OrderR b reb el tg' tm' :: R) w e w'
theorem serve_sel {i : Nat} {sz : Int} (h : SInv sz i el tg tm) (hi : i ≤ 100) (hne : el ≠ []) {len : Int} (h1 : 1 ≤ len) (h2 : len ≤ sz) (o : Own w (OrderR b reb el tg tm :: R)) :
    Calls Try.prog 18 #[.pointer (some ⟨b, 0, none⟩), .int .i64 (leastF el tg), .int .i64 len] w (ServOk sz i b reb el R w) := by
  obtain ⟨_, hu, hk, hl, hp⟩ := set_facts h.sub
  obtain ⟨_, hE, _, hi1, hi2⟩ := h.serve hi hne h1 h2
  have ht := h.tm0
  refine (serve_spec (leastF el tg) len hk (by omega) h.uniq (h.vals (by omega)) (by omega) o).mono ?_
  intro e w' hp'
  unfold ServPost at hp'
  rw [if_neg (by rw [hE]; simp)] at hp'
  split at hp'
  · exact ⟨_, _, hi1, hp'⟩
  · exact ⟨_, _, hi2, hp'⟩

theorem SInv.next {i : Nat} {sz : Int} (h : SInv sz i el tg tm) : SInv sz (i + 1) el tg tm := by
  have := h.tm0
  exact ⟨h.szr, h.sub, h.uniq, by push_cast; omega, fun f => by have := h.get f; push_cast; omega, h.low⟩
theorem Ch.more {W w : World} {b N M : Nat} {R : List SP} (o : Own w (Ch W b N :: R)) (h : N ≤ M := by omega) : Own w (Ch W b M :: R) := by
  obtain ⟨a, len, cap, zs, at_, h1, h2, h3, h4⟩ := Ch.open o
  exact Ch.shut h1 h2 (by omega) h4
theorem unit1_div {wt : Int} (h1 : 1 ≤ wt) (h2 : wt ≤ 16) : Int.tdiv 2952069120 wt = 4096 * unit1 wt := by
  have : wt = 1 ∨ wt = 2 ∨ wt = 3 ∨ wt = 4 ∨ wt = 5 ∨ wt = 6 ∨ wt = 7 ∨ wt = 8 ∨ wt = 9 ∨ wt = 10 ∨ wt = 11 ∨ wt = 12 ∨ wt = 13 ∨ wt = 14 ∨ wt = 15 ∨ wt = 16 := by omega
  rcases this with rfl | rfl | rfl | rfl | rfl | rfl | rfl | rfl | rfl | rfl | rfl | rfl | rfl | rfl | rfl | rfl <;> decide

def SpreadRel (W : World) (hb cb : Nat) (reb : Int) (v : Value) (wr : World) : Prop :=
  ∃ (i : Nat) (el tg : List (Int × Int)) (tm : Int), v = .int .i64 (i : Int) ∧ i ≤ 50 ∧ SInv 4096 i el tg tm ∧ Own wr [OrderR hb reb el tg tm, Ch W cb (1 + 6 * i), old W] ∧ Calm W wr

def SpreadRel2 (W : World) (hb cb : Nat) (reb : Int) (i : Nat) (a : Option Addr) (cap : Nat) (l : List (Int × Int)) (tg : List (Int × Int)) (tm : Int) (v : Value) (wr : World) : Prop :=
  ∃ (k : Nat), v = .int .i64 (k : Int) ∧ k ≤ l.length ∧ Own wr [OrderR hb reb l tg tm, slc 40 2 a l.length cap (flat part l), Ch W cb (1 + 6 * (i + 1)), old W] ∧ Calm W wr

set_option maxHeartbeats 3200000 in
set_option maxRecDepth 100000 in
theorem compSpread_walk (a0 : Option Addr) (len0 cap0 : Nat) (z0 : List Int) (w : World) (w0 : IsRow .i64 w a0 len0 cap0 z0) :
    Calls Try.prog 3 #[.slice a0 len0 cap0] w fun e w' => e = .returned (.bool true) ∧ Below w.heap.size w w' := by
  have oW := Own.start w
  go_enter Try.func3, Try.ntmps3
  go_wp2_with fail
  refine (genNew_spec a0 len0 cap0 z0 w0 oW).mono ?_
  rintro e1 v1 ⟨cb, rfl, o1, k1⟩
  have o2 := ((o1.alloc (.cells #[.int .i64 1099511627776, .int .i64 1, .int .i64 268435456] 2)).up 2).up 2
  go_wp2_with fail
  refine (next_spec w cb 0 3 _ _ (by omega) (by omega) (by omega) o2).mono ?_
  rintro e2 v2 ⟨x, hx0, hx1, rfl, o3, k3⟩
  obtain ⟨j, rfl⟩ : ∃ j : Nat, x = (j : Int) := ⟨x.toNat, by omega⟩
  obtain ⟨reb, hreb, hr1, hr2⟩ : ∃ reb : Int, [Value.int .i64 1099511627776, .int .i64 1, .int .i64 268435456][j]? = some (.int .i64 reb) ∧ 1 ≤ reb ∧ reb ≤ 1099511627776 := by
    have : j = 0 ∨ j = 1 ∨ j = 2 := by omega
    rcases this with rfl | rfl | rfl
    · exact ⟨_, rfl, by omega, by omega⟩
    · exact ⟨_, rfl, by omega, by omega⟩
    · exact ⟨_, rfl, by omega, by omega⟩
  have c := Own.cell (T := 2) (vs := [.int .i64 1099511627776, .int .i64 1, .int .i64 268435456]) (o3.up 2) j hreb
  clear hreb
  go_wp2_with fail
  refine (compNew_spec reb hr1 hr2 (o3.up 2).drop).mono ?_
  rintro e4 v4 ⟨hb, rfl, o4, k4⟩
  have hT : SpreadRel w hb cb reb (.int .i64 0) v4 := ⟨0, [], [], 0, rfl, by omega, SInv.start (by decide), o4, k1.trans (k3.al.trans k4)⟩
  go_wp2
  go_loopw [6] (fun v wr => SpreadRel w hb cb reb v wr) (fun v _ => 50 - (intOf v).toNat)
  case atStart => exact hT
  case round =>
    obtain ⟨i, el, tg, tm, rfl, hi, hI, oR, kR⟩ := hrel
    by_cases hlt : i < 50
    · go_wp2_with fail
      refine (set23_spec (W := w) (b := cb) (1 + 6 * i) (by omega) ((oR.up 2).up 2)).mono ?_
      rintro e5 w5 ⟨l, a, cap, hl, rfl, o5, k5⟩
      have hI5 := hI.elig hl
      obtain ⟨hgood, hu5, hk5, hl5, hp5⟩ := set_facts hl
      rw [eligEl_self hu5] at hI5
      go_wp2_with fail
      refine (eligible_ok a l.length cap l rfl (by omega) hgood ((o5.up 3).up 1)).mono ?_
      rintro e6 w6 ⟨rfl, o6, k6⟩
      rw [eligEl_self hu5] at o6
      generalize eligTg el tm l tg = tg6 at *
      have o7 := o6.up 1
      clear hgood
      go_wp2_with fail
      refine (select_spec hk5 (by omega) o7).mono ?_
      rintro e7 w7 ⟨rfl, o8, k8⟩
      rcases leastF_facts l tg6 (fun p hp => (hp5 p hp).1) with ⟨hnil, hle⟩ | ⟨hmem, _⟩
      · have hsv : selV l tg6 = .tuple #[.int .i64 0, .int .i64 5] := by unfold selV; rw [hle]; rfl
        have hI6 := hI5.next
        have hT2 : SpreadRel2 w hb cb reb i a cap l tg6 tm (.int .i64 0) w7 := ⟨0, rfl, by omega, ((o8.up 2 |> Ch.more).up 2).up 2, kR.trans (k5.trans (k6.trans k8))⟩
        rw [hsv]
        clear hsv hle
        have HI := Lib.hid hI6
        clear hI6 hI5 hI
        subst hnil
        go_wp2
        go_loopw [10] (fun v wr => SpreadRel2 w hb cb reb i a cap [] tg6 tm v wr) (fun v _ => 0 - (intOf v).toNat)
        case atStart => exact hT2
        case round =>
          obtain ⟨k, rfl, hk, oS, kS⟩ := hrel
          have hk0 : k = 0 := by simpa using hk
          subst hk0
          go_wp2
          go_roundw
          case rel => exact ⟨i + 1, [], tg6, tm, by go_num, by omega, HI.out, (oS.up 1).drop, kS⟩
          case measure => simp [intOf]; omega
      · have hne : l ≠ [] := by rintro rfl; simp at hmem
        obtain ⟨h0, _⟩ := hI5.serve (by omega) hne (len := 1) (by omega) (by omega)
        have hsv : selV l tg6 = .tuple #[.int .i64 (leastF l tg6), .int .i64 0] := by unfold selV; rw [if_neg (by omega)]
        rw [hsv]
        clear hsv
        go_wp2_with fail
        refine (length_spec (W := w) (b := cb) (1 + 6 * i + 5) (by omega) (o8.up 3 |>.up 3)).mono ?_
        rintro e9 w9 ⟨n, hn1, hn2, rfl, o9, k9⟩
        go_wp2_with fail
        refine (serve_sel hI5 (by omega) hne hn1 hn2 (o9.up 2)).mono ?_
        rintro e10 w10 ⟨TG, TM, hI6, rfl, o10, k10⟩
        have hT2 : SpreadRel2 w hb cb reb i a cap l TG TM (.int .i64 0) w10 := ⟨0, rfl, by omega, (o10.up 3).up 1, kR.trans (k5.trans (k6.trans (k8.trans (k9.trans k10))))⟩
        have HI := Lib.hid hI6
        clear hI6 hI5 hI h0 hmem
        go_wp2
        go_loopw [10] (fun v wr => SpreadRel2 w hb cb reb i a cap l TG TM v wr) (fun v _ => l.length - (intOf v).toNat)
        case atStart => exact hT2
        case round =>
          obtain ⟨k, rfl, hk, oS, kS⟩ := hrel
          by_cases hlk : k < l.length
          · obtain ⟨p, hp⟩ : ∃ p, l[k]? = some p := ⟨_, List.getElem?_eq_getElem hlk⟩
            obtain ⟨g, rfl, d0, d1⟩ := part_cells (oS.up 1) hp (by omega)
            have hpm := List.mem_of_getElem? hp
            have hpp := hp5 p hpm
            have hlow := HI.out.low p hpm
            have hget := (HI.out.get p.1).2.2
            rw [← hpp.2.2.1] at hget
            have hq := unit1_div hpp.2.2.2.1 hpp.2.2.2.2
            have hwp := hpp.2.2.2
            have htm := HI.out.tm0
            obtain ⟨f, wt⟩ := p
            dsimp only at d0 d1 hlow hget hq hwp
            clear hpp hp hpm
            have hur := unit1_range hwp.1 hwp.2
            go_wp2_with fail
            refine (compTag_still f oS).mono ?_
            rintro e11 w11 ⟨rfl, rfl⟩
            have ct := IsRet.still (compTime_still (oS.drew))
            generalize tget TG f = t at *
            obtain ⟨q, hqq⟩ : ∃ q, 4096 * unit1 wt = q := ⟨_, rfl⟩
            rw [hqq] at hq hget
            have hq1 : 0 ≤ q ∧ q ≤ 2952069120 := by omega
            clear hqq hur
            have hw1 : IntKind.i64.wrap q = q := by rw [IntKind.wrap_i64]; omega
            have hw2 : IntKind.i64.wrap (TM + q) = TM + q := by rw [IntKind.wrap_i64]; omega
            have hz1 : ¬ wt = 0 := by omega
            have hz2 : (wt == 0) = false := by simpa using hz1
            have hz3 : decide (TM + q < t) = false := by simp; omega
            go_wp2
            refine wp_region_tail 15 (by kernel_rfl) (by kernel_rfl) ?_
            simp only [List.take_succ_cons, List.take_zero, List.drop_succ_cons, List.drop_zero]
            repeat (first | still_step | still_call ct)
            refine wpStill_nil ?_
            go_wp2
            go_roundw
            case rel => exact ⟨k + 1, by go_num, by omega, oS.drew, kS.d1⟩
            case measure => simp [intOf]; omega
          · go_wp2
            go_roundw
            case rel => exact ⟨i + 1, l, TG, TM, by go_num, by omega, HI.out, (oS.up 1).drop, kS⟩
            case measure => simp [intOf]; omega
    · go_wp2_with fail
      refine (awake23_spec oR).mono ?_
      rintro e9 w9 ⟨rfl, o9, k9⟩
      go_wp2
      go_ret
      exact ⟨rfl, (o9.up 2).below (kR.trans k9)⟩
end
end Go.Proofs.Ytnandakoigmknaa
