/- The reference's table: how it lies in memory; New, There, Total, Find, Flows. -/
import Derived.Test.YtladamlfbdbdgaaDoorFlF
namespace Go.Proofs.YtladamlfbdbdgaaDoor
open Go.RowKit
open SP
def goneV (p : Flo × Bool) : Value := .bool (!p.2)
def FlowR (r : Nat) (T : Tab) : SP := ex fun (p : Option Addr × Nat × Option Addr × Nat × Option Addr × Nat) =>
  st [cel r 74 [.int .i64 T.cap, .int .i64 T.rates, .slice p.1 T.S.length p.2.1, .slice p.2.2.1 T.F.length p.2.2.2.1, .slice p.2.2.2.2.1 T.F.length p.2.2.2.2.2],
    slc 64 4 p.1 T.S.length p.2.1 (flat staC T.S), slc 67 7 p.2.2.1 T.F.length p.2.2.2.1 (flat floC (T.F.map (·.1))), slc 4 1 p.2.2.2.2.1 T.F.length p.2.2.2.2.2 (T.F.map goneV)]
section
variable {W w w' : World} {R : List SP} {r : Nat} {T : Tab}
theorem FlowR.iff : Own w (FlowR r T :: R) ↔ ∃ sa sc fa fc ga gc,
    Own w (cel r 74 [.int .i64 T.cap, .int .i64 T.rates, .slice sa T.S.length sc, .slice fa T.F.length fc, .slice ga T.F.length gc] ::
      slc 64 4 sa T.S.length sc (flat staC T.S) :: slc 67 7 fa T.F.length fc (flat floC (T.F.map (·.1))) :: slc 4 1 ga T.F.length gc (T.F.map goneV) :: R) := by
  constructor
  · intro o
    obtain ⟨⟨sa, sc, fa, fc, ga, gc⟩, o⟩ := Own.ex.1 o
    exact ⟨sa, sc, fa, fc, ga, gc, Own.st.1 o⟩
  · rintro ⟨sa, sc, fa, fc, ga, gc, o⟩
    exact Own.ex.2 ⟨⟨sa, sc, fa, fc, ga, gc⟩, Own.st.2 o⟩

theorem goodWeight_spec (x : Int) : Calls Tryd.prog 52 #[.int .i64 x] w (IsRet (.bool (decide (1 ≤ x ∧ x ≤ 16))) w) := by
  go_enter Tryd.func52, Tryd.ntmps52
  go_wp2
  all_goals go_ret
  all_goals refine ⟨congrArg Ending.returned (congrArg Value.bool ?_), rfl⟩
  all_goals
    rw [Bool.eq_iff_iff]
    simp only [decide_eq_true_eq, Bool.decide_and, Bool.and_eq_true, Bool.false_eq_true, false_iff]
    omega
theorem goodCaps_spec (p n : Int) : Calls Tryd.prog 53 #[.int .i64 p, .int .i64 n] w (IsRet (.bool (decide (¬ (p < 1 ∨ 64 < p ∨ n < 1 ∨ 262144 < n)))) w) := by
  obtain ⟨B, hB⟩ : ∃ B, decide (¬ (p < 1 ∨ 64 < p ∨ n < 1 ∨ 262144 < n)) = B := ⟨_, rfl⟩
  rw [hB]
  have HB := Lib.hid hB
  clear hB
  go_enter Tryd.func53, Tryd.ntmps53
  go_wp2
  all_goals go_ret
  all_goals refine ⟨congrArg Ending.returned (congrArg Value.bool ?_), rfl⟩
  all_goals
    rw [← HB.out, Bool.eq_iff_iff]
    simp only [decide_eq_true_eq, Bool.decide_and, Bool.and_eq_true, Bool.false_eq_true, false_iff]
    omega

set_option maxHeartbeats 1600000 in
theorem refNew10_bad (c r : Int) (h : newFE c r ≠ 0) : Calls Tryd.prog 21 #[.int .i64 c, .int .i64 r] w (IsRet (.tuple #[.pointer none, .int .i64 1]) w) := by
  have h2 : c < 1 ∨ 512 < c ∨ r < 1 ∨ 12 < r := by unfold newFE at h; split at h; · assumption
                                                   · omega
  have H2 := Lib.hid h2
  clear h h2
  go_enter Tryd.func21, Tryd.ntmps21
  go_wp2
  all_goals first
    | (go_ret2; exact ⟨rfl, rfl⟩)
    | (exfalso; have := H2.out; omega)
set_option maxHeartbeats 1600000 in
theorem refNew10_spec (c r : Int) (hc : 1 ≤ c ∧ c ≤ 512) (hr : 1 ≤ r ∧ r ≤ 12) (o : Own w R) :
    Calls Tryd.prog 21 #[.int .i64 c, .int .i64 r] w fun e w' => ∃ b, e = .returned (.tuple #[.pointer (some ⟨b, 0, none⟩), .int .i64 0]) ∧ Own w' (FlowR b ⟨c, r, [], []⟩ :: R) ∧ Calm w w' := by
  obtain ⟨hc1, hc2⟩ := hc
  obtain ⟨hr1, hr2⟩ := hr
  have e1 : decide (c < 1) = false := decide_eq_false (by omega)
  have e2 : decide (512 < c) = false := decide_eq_false (by omega)
  have e3 : decide (r < 1) = false := decide_eq_false (by omega)
  have e4 : decide (12 < r) = false := decide_eq_false (by omega)
  have o2 := o.alloc (.cells #[.int .i64 c, .int .i64 r, .slice none 0 0, .slice none 0 0, .slice none 0 0] 74)
  go_enter Tryd.func21, Tryd.ntmps21
  go_wp2
  go_ret2
  refine ⟨_, rfl, FlowR.iff.2 ⟨none, 0, none, 0, none, 0, ?_⟩, ⟨rfl, rfl, rfl⟩⟩
  have o4 := Own.slc_nil (e := 64) (size := 4) (Own.slc_nil (e := 67) (size := 7) (Own.slc_nil (e := 4) (size := 1) o2))
  exact o4.re [3, 0, 1, 2]

set_option maxHeartbeats 1600000 in
theorem there_spec (f : Int) (hT : T.Ok) (o : Own w (FlowR r T :: R)) :
    Calls Tryd.prog 45 #[.pointer (some ⟨r, 0, none⟩), .int .i64 f] w (IsRet (.bool (getF T.F f).isSome) w) := by
  have hfl := hT.fl
  obtain ⟨sa, sc, fa, fc, ga, gc, o1⟩ := FlowR.iff.1 o
  have c3 := o1.cell 3
  have c4 := o1.cell 4
  obtain ⟨B, hB⟩ : ∃ B, (getF T.F f).isSome = B := ⟨_, rfl⟩
  rw [hB]
  cases hg : getF T.F f with
  | none =>
    rw [hg] at hB
    have hB' : B = false := hB.symm
    clear hB
    rcases getF_none hg with h1 | h1 | ⟨i, g, rfl, hgi, hi⟩
    · subst hB'
      clear hg
      go_enter Tryd.func45, Tryd.ntmps45
      go_wp2
      go_ret
      exact ⟨rfl, rfl⟩
    · subst hB'
      clear hg
      have h0 : decide (0 ≤ f) = true := decide_eq_true (by omega)
      have h2 : decide (f < (T.F.length : Int)) = false := decide_eq_false (by omega)
      go_enter Tryd.func45, Tryd.ntmps45
      go_wp2
      go_ret
      exact ⟨rfl, rfl⟩
    · subst hB'
      clear hg
      obtain ⟨g4, rfl, hc, _, _⟩ := (o1.up 3).slc_cell (by omega)
      have d := hc i (.bool true) (by rw [List.getElem?_map, hgi]; rfl)
      clear hc
      go_enter Tryd.func45, Tryd.ntmps45
      go_wp2
      go_ret
      exact ⟨rfl, rfl⟩
  | some g =>
    rw [hg] at hB
    have hB' : B = true := hB.symm
    subst hB'
    clear hB
    obtain ⟨i, rfl, hgi, hi⟩ := getF_some hg
    clear hg
    obtain ⟨g4, rfl, hc, _, _⟩ := (o1.up 3).slc_cell (by omega)
    have d := hc i (.bool false) (by rw [List.getElem?_map, hgi]; rfl)
    clear hc
    go_enter Tryd.func45, Tryd.ntmps45
    go_wp2
    go_ret
    exact ⟨rfl, rfl⟩

theorem totF_take {F : List (Flo × Bool)} {i : Nat} {g : Flo} {c : Bool} (h : F[i]? = some (g, c)) : totF (F.take (i + 1)) = totF (F.take i) + (if c = true then g.wt else 0) := by
  rw [List.take_add_one, totF_append, h]
  simp [totF]
def TotRel (F : List (Flo × Bool)) (w : World) (v3 v4 : Value) (wr : World) : Prop := ∃ i : Nat, v4 = .int .i64 (i : Int) ∧ i ≤ F.length ∧ v3 = .int .i64 (totF (F.take i)) ∧ wr = w
set_option maxHeartbeats 1600000 in
set_option maxRecDepth 100000 in
theorem totalR_spec (hT : T.Ok) (o : Own w (FlowR r T :: R)) : Calls Tryd.prog 38 #[.pointer (some ⟨r, 0, none⟩)] w (IsRet (.int .i64 (totF T.F)) w) := by
  have hfl := hT.fl
  obtain ⟨sa, sc, fa, fc, ga, gc, o1⟩ := FlowR.iff.1 o
  have c3 := o1.cell 3
  have c4 := o1.cell 4
  have HW := Lib.hid hT.fwt
  go_enter Tryd.func38, Tryd.ntmps38
  go_wp2
  go_loopw [3, 4] (fun v3 v4 wr => TotRel T.F w v3 v4 wr) (fun _ v _ => T.F.length - (intOf v).toNat)
  case atStart => exact ⟨0, rfl, by omega, rfl, rfl⟩
  case round =>
    obtain ⟨i, rfl, hi, rfl, rfl⟩ := hrel
    by_cases hil : i < T.F.length
    · obtain ⟨⟨g, cc⟩, hgi⟩ : ∃ p, T.F[i]? = some p := ⟨_, List.getElem?_eq_getElem hil⟩
      have hst := totF_take hgi
      have hrg := totF_range (T.F.take i) (fun p hp => HW.out p (List.mem_of_mem_take hp))
      rw [List.length_take] at hrg
      have hgw := HW.out _ (List.mem_of_getElem? hgi)
      dsimp only at hgw
      obtain ⟨g4, rfl, hc, _, _⟩ := (o1.up 3).slc_cell (by omega)
      have d := hc i (.bool (!cc)) (by rw [List.getElem?_map, hgi]; rfl)
      clear hc
      obtain ⟨g3, rfl, hc3, _, _⟩ := (o1.up 2).slc_cell (by omega)
      have d2 := hc3 (i * 7 + 2) (.int .i64 g.wt) (by rw [flat_get floC_len (T.F.map (·.1)) i 2 g (by rw [List.getElem?_map, hgi]; rfl) (by omega)]; rfl)
      clear hc3
      cases cc with
      | true =>
        rw [if_pos rfl] at hst
        have HST := Lib.hid hst
        clear hst
        have d' : wr.cell? ⟨g4, i, none⟩ = some (.bool false) := d
        clear d
        obtain ⟨tt, htt⟩ : ∃ tt, totF (T.F.take i) = tt := ⟨_, rfl⟩
        rw [htt] at HST hrg ⊢
        clear htt
        have hw : IntKind.i64.wrap (tt + g.wt) = tt + g.wt := by rw [IntKind.wrap_i64]; omega
        go_wp2
        go_roundw
        case rel => exact ⟨i + 1, by go_num, by omega, by rw [HST.out], rfl⟩
        case measure => simp [intOf]; omega
      | false =>
        rw [if_neg (by decide), Int.add_zero] at hst
        have HST := Lib.hid hst
        clear hst
        have d' : wr.cell? ⟨g4, i, none⟩ = some (.bool true) := d
        clear d
        go_wp2
        go_roundw
        case rel => exact ⟨i + 1, by go_num, by omega, by rw [HST.out], rfl⟩
        case measure => simp [intOf]; omega
    · have hie : i = T.F.length := by omega
      subst hie
      rw [List.take_length]
      go_wp2
      go_ret
      exact ⟨rfl, rfl⟩
end
end Go.Proofs.YtladamlfbdbdgaaDoor
