/- The law CompRebase: the walk. -/
import Derived.Test.YtnandakoigmknaaRebP
import Derived.Test.YtnandakoigmknaaTurnsP
import Derived.Test.YtnandakoigmknaaSpread
namespace Go.Proofs.Ytnandakoigmknaa
open Go.RowKit
open SP
section
variable {W w w' : World} {R : List SP} {b : Nat} {reb tm : Int} {el tg : List (Int × Int)}

def ServRes (b : Nat) (reb : Int) (el tg : List (Int × Int)) (tm f len : Int) (R : List SP) (w : World) (e : Ending) (w' : World) : Prop :=
  ∃ tg' tm', ((tg' = servTg el tg f len ∧ tm' = servTm tg tm f) ∨ (tg' = lower (servTm tg tm f) (servTg el tg f len) ∧ tm' = servTm tg tm f - servTm tg tm f)) ∧ Ret (.int .i64 0) (OrderR b reb el tg' tm' :: R) w e w'
theorem serve_res {i : Nat} (h : SInv 4096 i el tg tm) (hi : i ≤ 100) (hne : el ≠ []) {f : Int} (hf : leastF el tg = f) {len : Int} (h1 : 1 ≤ len) (h2 : len ≤ 4096) (o : Own w (OrderR b reb el tg tm :: R)) :
    Calls Try.prog 18 #[.pointer (some ⟨b, 0, none⟩), .int .i64 f, .int .i64 len] w (ServRes b reb el tg tm f len R w) := by
  obtain ⟨_, hu, hk, hl, hp⟩ := set_facts h.sub
  obtain ⟨_, hE, hB, hi1, hi2⟩ := h.serve hi hne h1 h2
  have ht := h.tm0
  rw [hf] at hE hB
  refine (serve_spec f len hk (by omega) h.uniq (h.vals (by omega)) (by omega) o).mono ?_
  intro e w' hp'
  unfold ServPost at hp'
  rw [if_neg (by rw [hE]; simp), hB] at hp'
  split at hp'
  · exact ⟨_, _, .inl ⟨rfl, rfl⟩, hp'⟩
  · exact ⟨_, _, .inr ⟨rfl, rfl⟩, hp'⟩

theorem RInv.served {s : Int} {i : Nat} {el tgA tgB : List (Int × Int)} {tmA tmB : Int} (h : RInv s i el tgA tmA tgB tmB) (hi : i ≤ 50) {f : Int} (hf : f ∈ el.map (·.1)) (hle : leastF el tgA = f) {len : Int} (h1 : 1 ≤ len) (h2 : len ≤ 4096)
    {ta tb : List (Int × Int)} {ma mb : Int}
    (ha : (ta = servTg el tgA f len ∧ ma = servTm tgA tmA f) ∨ (ta = lower (servTm tgA tmA f) (servTg el tgA f len) ∧ ma = servTm tgA tmA f - servTm tgA tmA f))
    (hb : (tb = servTg el tgB f len ∧ mb = servTm tgB tmB f) ∨ (tb = lower (servTm tgB tmB f) (servTg el tgB f len) ∧ mb = servTm tgB tmB f - servTm tgB tmB f)) :
    ∃ s', RInv s' (i + 1) el ta ma tb mb := by
  have hne : el ≠ [] := by rintro rfl; simp at hf
  have hlb : leastF el tgB = f := by rw [h.least]; exact hle
  have sa := (h.a.serve (by omega) hne h1 h2).2.2
  have sb := (h.b.serve (by omega) hne h1 h2).2.2
  rw [hle] at sa
  rw [hlb] at sb
  have hS := h.serve (by omega) hf hle h1 h2 (fun tg tm hI g => serve_get hI (by omega) hf h1 h2 g)
  have sa2 := sa.2.2
  have sb2 := sb.2.2
  rw [sa.1] at sa2
  rw [sb.1] at sb2
  rcases ha with ⟨rfl, rfl⟩ | ⟨rfl, rfl⟩ <;> rcases hb with ⟨rfl, rfl⟩ | ⟨rfl, rfl⟩
  · exact ⟨_, hS⟩
  · exact ⟨_, hS.lowB sb2⟩
  · exact ⟨_, hS.lowA sa2⟩
  · exact ⟨_, (hS.lowA sa2).lowB sb2⟩

theorem RInv.next {s : Int} {i : Nat} {el tgA tgB : List (Int × Int)} {tmA tmB : Int} (h : RInv s i el tgA tmA tgB tmB) : RInv s (i + 1) el tgA tmA tgB tmB := ⟨h.a.next, h.b.next, h.tm, h.eff⟩

def RebRel (W : World) (ha hb cb : Nat) (v : Value) (wr : World) : Prop :=
  ∃ (s : Int) (i : Nat) (el tgA : List (Int × Int)) (tmA : Int) (tgB : List (Int × Int)) (tmB : Int), v = .int .i64 (i : Int) ∧ i ≤ 50 ∧ RInv s i el tgA tmA tgB tmB ∧
    Own wr [OrderR ha 1 el tgA tmA, OrderR hb 1099511627776 el tgB tmB, Ch W cb (6 * i), old W] ∧ Calm W wr

set_option maxHeartbeats 3200000 in
set_option maxRecDepth 100000 in
theorem compRebase_walk (a0 : Option Addr) (len0 cap0 : Nat) (z0 : List Int) (w : World) (w0 : IsRow .i64 w a0 len0 cap0 z0) :
    Calls Try.prog 5 #[.slice a0 len0 cap0] w fun e w' => e = .returned (.bool true) ∧ Below w.heap.size w w' := by
  have oW := Own.start w
  go_enter Try.func5, Try.ntmps5
  go_wp2_with fail
  refine (genNew_spec a0 len0 cap0 z0 w0 oW).mono ?_
  rintro e1 v1 ⟨cb, rfl, o1, k1⟩
  go_wp2_with fail
  refine (compNew_spec 1 (by decide) (by decide) o1).mono ?_
  rintro e2 v2 ⟨ha, rfl, o2, k2⟩
  go_wp2_with fail
  refine (compNew_spec 1099511627776 (by decide) (by decide) o2).mono ?_
  rintro e3 v3 ⟨hb, rfl, o3, k3⟩
  have hT : RebRel w ha hb cb (.int .i64 0) v3 := ⟨0, 0, [], [], 0, [], 0, rfl, by omega, RInv.start, o3.up 1, k1.trans (k2.trans k3)⟩
  go_wp2
  go_loopw [8] (fun v wr => RebRel w ha hb cb v wr) (fun v _ => 50 - (intOf v).toNat)
  case atStart => exact hT
  case round =>
    obtain ⟨s, i, el, tgA, tmA, tgB, tmB, rfl, hi, hI, oR, kR⟩ := hrel
    by_cases hlt : i < 50
    · go_wp2_with fail
      refine (set23_spec (W := w) (b := cb) (6 * i) (by omega) ((oR.up 3).up 3)).mono ?_
      rintro e5 w5 ⟨l, a, cap, hl, rfl, o5, k5⟩
      have hI5 := hI.elig hl
      obtain ⟨hgood, hu5, hk5, hl5, hp5⟩ := set_facts hl
      rw [eligEl_self hu5] at hI5
      go_wp2_with fail
      refine (eligible_ok a l.length cap l rfl (by omega) hgood ((o5.up 3).up 1)).mono ?_
      rintro e6 w6 ⟨rfl, o6, k6⟩
      go_wp2_with fail
      refine (eligible_ok a l.length cap l rfl (by omega) hgood ((o6.up 4).up 1)).mono ?_
      rintro e7 w7 ⟨rfl, o7, k7⟩
      rw [eligEl_self hu5] at o7
      generalize eligTg el tmA l tgA = tA at *
      generalize eligTg el tmB l tgB = tB at *
      clear hgood
      have hlB := hI5.least
      rcases leastF_facts l tA (fun p hp => (hp5 p hp).1) with ⟨hnil, hle⟩ | ⟨hmem, _⟩
      · have hsA : selV l tA = .tuple #[.int .i64 0, .int .i64 5] := by unfold selV; rw [hle]; rfl
        have hsB : selV l tB = .tuple #[.int .i64 0, .int .i64 5] := by unfold selV; rw [hlB, hle]; rfl
        have hI6 := Lib.hid hI5.next
        clear hle hlB hI5 hI
        go_wp2_with fail
        refine (select_spec hk5 (by omega) (o7.up 2)).mono ?_
        rintro e8 w8 ⟨rfl, o8, k8⟩
        rw [hsA]
        go_wp2_with fail
        refine (select_spec hk5 (by omega) (o8.up 2)).mono ?_
        rintro e9 w9 ⟨rfl, o9, k9⟩
        rw [hsB]
        go_wp2_with fail
        refine (length_spec (W := w) (b := cb) (6 * i + 5) (by omega) (o9.up 4 |>.up 4)).mono ?_
        rintro e10 w10 ⟨n, hn1, hn2, rfl, o10, k10⟩
        go_wp2
        go_roundw
        case rel =>
          refine ⟨s, i + 1, l, tA, tmA, tB, tmB, by go_num, by omega, hI6.out, ?_, kR.trans (k5.trans (k6.trans (k7.trans (k8.trans (k9.trans k10)))))⟩
          exact ((o10.up 4).drop.up 2).up 3
        case measure => simp [intOf]; omega
      · have hne : l ≠ [] := by rintro rfl; simp at hmem
        obtain ⟨f, hf⟩ : ∃ f, leastF l tA = f := ⟨_, rfl⟩
        have hf0 : 0 ≤ f := by rw [← hf]; exact (hI5.a.serve (by omega) hne (len := 1) (by omega) (by omega)).1
        rw [hf] at hlB hmem
        have hsA : selV l tA = .tuple #[.int .i64 f, .int .i64 0] := by unfold selV; rw [hf, if_neg (by omega)]
        have hsB : selV l tB = .tuple #[.int .i64 f, .int .i64 0] := by unfold selV; rw [hlB, if_neg (by omega)]
        have HF := Lib.hid hf
        have HB := Lib.hid hlB
        have HI := Lib.hid hI5
        clear hf hlB hI5 hI
        go_wp2_with fail
        refine (select_spec hk5 (by omega) (o7.up 2)).mono ?_
        rintro e8 w8 ⟨rfl, o8, k8⟩
        rw [hsA]
        go_wp2_with fail
        refine (select_spec hk5 (by omega) (o8.up 2)).mono ?_
        rintro e9 w9 ⟨rfl, o9, k9⟩
        rw [hsB]
        go_wp2_with fail
        refine (length_spec (W := w) (b := cb) (6 * i + 5) (by omega) (o9.up 4 |>.up 4)).mono ?_
        rintro e10 w10 ⟨n, hn1, hn2, rfl, o10, k10⟩
        go_wp2_with fail
        refine (serve_res HI.out.a (by omega) hne HF.out hn1 hn2 (o10.up 3)).mono ?_
        rintro e11 w11 ⟨tA1, mA1, hA1, rfl, o11, k11⟩
        go_wp2_with fail
        refine (serve_res HI.out.b (by omega) hne HB.out hn1 hn2 (o11.up 3)).mono ?_
        rintro e12 w12 ⟨tB1, mB1, hB1, rfl, o12, k12⟩
        obtain ⟨s', hI12⟩ := HI.out.served (by omega) hmem HF.out hn1 hn2 hA1 hB1
        have HI12 := Lib.hid hI12
        clear hI12 hA1 hB1
        go_wp2
        go_roundw
        case rel =>
          refine ⟨s', i + 1, l, tA1, mA1, tB1, mB1, by go_num, by omega, HI12.out, ?_, kR.trans (k5.trans (k6.trans (k7.trans (k8.trans (k9.trans (k10.trans (k11.trans k12)))))))⟩
          exact (o12.up 4).drop.up 1
        case measure => simp [intOf]; omega
    · go_wp2_with fail
      refine (awake23_spec oR).mono ?_
      rintro e9 w9 ⟨rfl, o9, k9⟩
      go_wp2
      go_ret
      exact ⟨rfl, (o9.up 3).below (kR.trans k9)⟩
end
end Go.Proofs.Ytnandakoigmknaa
