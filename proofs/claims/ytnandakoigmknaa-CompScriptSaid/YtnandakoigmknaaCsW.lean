/- CompScript: the walk of 'same'. -/
import Derived.Test.YtnandakoigmknaaCsQ
namespace Go.Proofs.Ytnandakoigmknaa
open Go.RowKit
open SP
section
variable {el tg : List (Int × Int)} {tm now : Int} {tags : List Int} {w w' : World} {R : List SP} {S : SP} {b rb : Nat} {reb : Int}

theorem CsRel.tagEq (h : CsRel el tg tm tags now) (f : Int) : (if f < 0 ∨ 32 ≤ f then 0 else tags.getD f.toNat 0) = tget tg f := by
  rw [h.tag f]
  by_cases hf : 0 ≤ f ∧ f < 32
  · rw [if_pos hf, if_neg (by omega)]
  · rw [if_neg hf, if_pos (by omega)]
theorem CsRel.selP (h : CsRel el tg tm tags now) : ∃ x y : Int, selV el tg = .tuple #[.int .i64 x, .int .i64 y] ∧ refSel tags el = .tuple #[.int .i64 x, .int .i64 y] ∧ (y = 0 ∨ y = 5) := by
  have he := h.sel
  cases el with
  | nil => exact ⟨0, 5, he, rfl, .inr rfl⟩
  | cons p l => exact ⟨_, 0, he, rfl, .inl rfl⟩

def SameRel (b rb : Nat) (reb : Int) (el tg : List (Int × Int)) (tm : Int) (tags : List Int) (now : Int) (S : SP) (R : List SP) (w : World) (v : Value) (wr : World) : Prop :=
  ∃ f : Int, v = .int .i64 f ∧ -1 ≤ f ∧ f ≤ 8 ∧ Own wr (OrderR b reb el tg tm :: RefR S rb reb el tags now :: S :: R) ∧ Calm w wr

set_option maxHeartbeats 3200000 in
set_option maxRecDepth 100000 in
theorem same23_spec (h : CsRel el tg tm tags now) (o : Own w (OrderR b reb el tg tm :: RefR S rb reb el tags now :: S :: R)) :
    Calls Try.prog 25 #[.pointer (some ⟨b, 0, none⟩), .pointer (some ⟨rb, 0, none⟩)] w (Ret (.bool true) (OrderR b reb el tg tm :: RefR S rb reb el tags now :: S :: R) w) := by
  have hnow := h.now
  subst hnow
  have hT : SameRel b rb reb el tg now tags now S R w (.int .i64 (-1)) w := ⟨-1, rfl, by omega, by omega, o, Calm.refl w⟩
  have hkr := h.keys.2
  have hk := h.keyOk
  have hn := h.elen
  have hte := h.tagEq
  obtain ⟨x, y, hs1, hs2, _⟩ := h.selP
  have HTE := Lib.hid hte
  have HS1 := Lib.hid hs1
  have HS2 := Lib.hid hs2
  have HKR := Lib.hid hkr
  clear hte hs1 hs2 hkr
  go_enter Try.func25, Try.ntmps25
  go_wp2
  go_loopw [5] (fun v wr => SameRel b rb reb el tg now tags now S R w v wr) (fun v _ => (8 - intOf v).toNat)
  case atStart => exact hT
  case round =>
    clear hT
    obtain ⟨f, rfl, hf1, hf2, oR, kR⟩ := hrel
    by_cases hlt : f < 8
    · have c1 := compTag_still f oR
      have c2 := refTag_spec f (oR.up 1)
      rw [HTE.out f] at c2
      generalize tget tg f = t at *
      go_wp2_with fail
      refine c1.mono ?_
      rintro e1 w1 ⟨rfl, rfl⟩
      go_wp2_with fail
      refine c2.mono ?_
      rintro e2 w2 ⟨rfl, rfl⟩
      go_wp2
      go_roundw
      case rel => exact ⟨f + 1, rfl, by omega, by omega, oR, kR⟩
      case measure => simp [intOf]; omega
    · go_wp2_with fail
      refine (select_spec hk (by omega) oR).mono ?_
      rintro e1 w1 ⟨rfl, o1, k1⟩
      rw [HS1.out]
      go_wp2_with fail
      refine (refSelect_spec (fun p hp => by have := HKR.out p hp; omega) (by omega) (o1.up 1 |>.re [0, 2, 1])).mono ?_
      rintro e2 w2 ⟨rfl, m2, hw2⟩
      rw [HS2.out]
      have o2 : Own w2 (OrderR b reb el tg now :: RefR S rb reb el tags now :: S :: R) := by rw [hw2]; exact o1.drewN m2
      have k2 : Calm w1 w2 := by rw [hw2]; exact ⟨rfl, rfl, rfl⟩
      clear hw2
      obtain ⟨a, c, hl, hP, o3⟩ := RefR.iff.1 (o2.up 1)
      have c34 := o3.cell 34 (refCells_now hl)
      have ct := IsRet.still (compTime_still o2.drew)
      go_wp2
      refine wp_region_tail 17 (by kernel_rfl) (by kernel_rfl) ?_
      simp only [List.take_succ_cons, List.take_zero, List.drop_succ_cons, List.drop_zero]
      repeat (first | still_step | still_call ct)
      refine wpStill_nil ?_
      go_wp2
      go_ret
      exact ⟨rfl, o2.drew, kR.trans (k1.trans k2.d1)⟩
end
end Go.Proofs.Ytnandakoigmknaa
