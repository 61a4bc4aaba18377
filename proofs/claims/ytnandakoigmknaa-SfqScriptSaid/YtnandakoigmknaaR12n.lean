/- The reference of chapter 13: Charge where it gives an error. -/
import Derived.Test.YtnandakoigmknaaR12g
namespace Go.Proofs.Ytnandakoigmknaa
open Go.RowKit
open SP
section
variable {P : SP} {W w w' : World} {R : List SP} {b : Nat} {at_ now aw : Int} {L O : List Tg}
set_option maxHeartbeats 3200000 in
set_option maxRecDepth 100000 in
theorem chargeT_none (f len : Int) (hL : L.length ≤ 1000) (hf : fget L f = none) (o : Own w (RefT P b at_ L O now aw :: P :: R)) :
    Calls Try.prog 64 #[.pointer (some ⟨b, 0, none⟩), .int .i64 f, .int .i64 len] w (IsRet (.int .i64 6) w) := by
  have hat := index_spec f hL o
  rw [idxT_none 0 L hf] at hat
  clear hf
  go_enter Try.func64, Try.ntmps64
  go_wp2_with fail
  refine hat.mono ?_
  rintro e1 w1 ⟨rfl, rfl⟩
  go_wp2
  go_ret
  exact ⟨rfl, rfl⟩
set_option maxHeartbeats 3200000 in
set_option maxRecDepth 100000 in
theorem chargeT_len (f len : Int) {t : Tg} (hL : L.length ≤ 1000) (hf : fget L f = some t) (hl : ¬ (1 ≤ len ∧ len ≤ 4096)) (o : Own w (RefT P b at_ L O now aw :: P :: R)) :
    Calls Try.prog 64 #[.pointer (some ⟨b, 0, none⟩), .int .i64 f, .int .i64 len] w (IsRet (.int .i64 1) w) := by
  have hat := index_spec f hL o
  obtain ⟨i, hi, hai⟩ := idxT_some 0 L hf
  rw [hai, Nat.zero_add] at hat
  clear hf hi hai
  by_cases h1 : len < 1
  · clear hl
    go_enter Try.func64, Try.ntmps64
    go_wp2_with fail
    refine hat.mono ?_
    rintro e1 w1 ⟨rfl, rfl⟩
    go_wp2
    go_ret
    exact ⟨rfl, rfl⟩
  · have h2 : 4096 < len := by omega
    clear hl
    go_enter Try.func64, Try.ntmps64
    go_wp2_with fail
    refine hat.mono ?_
    rintro e1 w1 ⟨rfl, rfl⟩
    go_wp2
    go_ret
    exact ⟨rfl, rfl⟩
set_option maxHeartbeats 3200000 in
set_option maxRecDepth 100000 in
theorem chargeT_rng (f len : Int) {t : Tg} (hok : LOk L) (hf : fget L f = some t) (hl : 1 ≤ len ∧ len ≤ 4096) (hr : (finF t.s len t.w).2 ≠ 0) (o : Own w (RefT P b at_ L O now aw :: P :: R)) :
    Calls Try.prog 64 #[.pointer (some ⟨b, 0, none⟩), .int .i64 f, .int .i64 len] w (Ret (.int .i64 2) (RefT P b at_ L O now aw :: P :: R) w) := by
  have hL := hok.len
  have hat := index_spec f (by omega) o
  obtain ⟨i, hi, hai⟩ := idxT_some 0 L hf
  rw [hai, Nat.zero_add] at hat
  have hil := (List.getElem?_eq_some_iff.1 hi).1
  have hrng := hok.rng t (List.mem_of_getElem? hi)
  obtain ⟨a, c, a2, c2, ⟨⟨hP, hs⟩, hc, hP2⟩, o1⟩ := RefT.iff.1 o
  obtain ⟨g, so, hag, d0, d1, d2⟩ := hP _ _ (o1.up 1) i t hi
  subst hag
  obtain ⟨t0, t1, t2⟩ := t
  dsimp only at d0 d1 d2 hrng hr
  have c1 := o1.cell 1
  have hfin := fun w => finishT_spec t2 len t1 hl ⟨hrng.2.2.1, hrng.2.2.2.1⟩ ⟨hrng.2.2.2.2.1, hrng.2.2.2.2.2⟩ w
  have hneb : ((finF t2 len t1).2 == 0) = false := by rw [beq_eq_false_iff_ne]; exact hr
  generalize (finF t2 len t1).1 = r1 at *
  generalize (finF t2 len t1).2 = r2 at *
  have ct := IsRet.still (hfin w.drew)
  obtain ⟨l1, l2⟩ := hl
  clear hr hrng hai hi hf
  go_enter Try.func64, Try.ntmps64
  go_wp2_with fail
  refine hat.mono ?_
  rintro e1 w1 ⟨rfl, rfl⟩
  go_wp2
  go_quiet ((go_at_call 81; exact Calls.quiet_of_same (quiet_form (hfin _))))
  go_wp2
  go_ret
  exact ⟨rfl, o.drewN _, ⟨rfl, rfl, rfl⟩⟩
end
end Go.Proofs.Ytnandakoigmknaa
