/- The program's ledger of lags: New, Join, SetWeight, Transfer, Lag. -/
import Derived.Test.YtalkmeclkjnjnaaLagS
import Derived.Test.YtalkmeclkjnjnaaEnt
import Derived.Test.YtalkmeclkjnjnaaRe
import Derived.Test.YtalkmeclkjnjnaaKeysN
import Derived.Lib.MinMax
namespace Go.Proofs.Ytalkmeclkjnjnaa
open Go.RowKit
open SP
section
variable {W w w' : World} {b N : Nat} {L : List Tg} {R : List SP}

def accV (t : Tg) : Value := .agg #[.int .i64 t.w, .int .i64 t.s]
def LagR (b N : Nat) (L : List Tg) : SP := ex fun (p : Nat × List (Int × Tg)) =>
  st [pu (RepN p.2 L ∧ LgOk N L), cel b 63 [.map (some p.1)], mpI accV p.1 p.2]
theorem LagR.iff : Own w (LagR b N L :: R) ↔ ∃ ab m, RepN m L ∧ LgOk N L ∧ Own w (cel b 63 [.map (some ab)] :: mpI accV ab m :: R) := by
  constructor
  · intro o
    obtain ⟨⟨ab, m⟩, h⟩ := Own.ex.1 o
    obtain ⟨⟨h1, h2⟩, h5⟩ := Own.pu.1 (Own.st.1 h)
    exact ⟨ab, m, h1, h2, h5⟩
  · rintro ⟨ab, m, h1, h2, h5⟩
    exact Own.ex.2 ⟨(ab, m), Own.st.2 (Own.pu.2 ⟨⟨h1, h2⟩, h5⟩)⟩
theorem LagR.ok (o : Own w (LagR b N L :: R)) : LgOk N L := by
  obtain ⟨_, _, _, h, _⟩ := LagR.iff.1 o
  exact h
theorem LagR.le {M : Nat} (h : N ≤ M) (o : Own w (LagR b N L :: R)) : Own w (LagR b M L :: R) := by
  obtain ⟨ab, m, h1, h2, h3⟩ := LagR.iff.1 o
  exact LagR.iff.2 ⟨ab, m, h1, h2.le h, h3⟩

theorem Try.zeroAcc (w : World) : (zeroValue 65).run Try.prog w = .ok (.agg #[.int .i64 0, .int .i64 0]) w := by kernel_rfl
section
variable {ab : Nat} {m : List (Int × Tg)} {k : Int} {t : Tg}
theorem lookN_some (o : Own w (mpI accV ab m :: R)) (hm : RepN m L) (h : fget L k = some t) :
    (Instr.lookup 61 (.map (some ab)) (.int .i64 k) true).run Try.prog w = .ok (.tuple #[.agg #[.int .i64 t.w, .int .i64 t.s], .bool true]) w := by
  rw [run_lookup_mpI Try.underlying61 Try.underlying3 Try.zeroAcc o k true, hm.get, h]; rfl
theorem lookN_one (o : Own w (mpI accV ab m :: R)) (hm : RepN m L) (h : fget L k = some t) :
    (Instr.lookup 61 (.map (some ab)) (.int .i64 k) false).run Try.prog w = .ok (.agg #[.int .i64 t.w, .int .i64 t.s]) w := by
  rw [run_lookup_mpI Try.underlying61 Try.underlying3 Try.zeroAcc o k false, hm.get, h]; rfl
theorem lookN_none (o : Own w (mpI accV ab m :: R)) (hm : RepN m L) (h : fget L k = none) :
    (Instr.lookup 61 (.map (some ab)) (.int .i64 k) true).run Try.prog w = .ok (.tuple #[.agg #[.int .i64 0, .int .i64 0], .bool false]) w := by
  rw [run_lookup_mpI Try.underlying61 Try.underlying3 Try.zeroAcc o k true, hm.get, h]; rfl
end

set_option maxHeartbeats 800000 in
theorem lagNew_spec (o : Own w R) : Calls Try.prog 8 #[] w fun e w' => ∃ b, Ret (.pointer (some ⟨b, 0, none⟩)) (LagR b 0 [] :: R) w e w' := by
  have hmm := @run_makeMap Try.prog
  go_enter Try.func8, Try.ntmps8
  go_wp2
  go_ret
  have o1 := o.mpI_made (f := accV)
  have o2 := o1.alloc (.cells #[.map (some w.heap.size)] 63)
  simp only [World.size_alloc] at o2
  exact ⟨_, rfl, LagR.iff.2 ⟨w.heap.size, [], RepN.start, LgOk.start, o2⟩, ⟨rfl, rfl, rfl⟩⟩

set_option maxHeartbeats 3200000 in
set_option maxRecDepth 100000 in
theorem lagJoin_spec (f wt : Int) (o : Own w (LagR b N L :: R)) :
    Calls Try.prog 11 #[.pointer (some ⟨b, 0, none⟩), .int .i64 f, .int .i64 wt] w (Ret (.int .i64 (nJoin L f wt).1) (LagR b N (nJoin L f wt).2 :: R) w) := by
  obtain ⟨ab, m, hm, hok, o1⟩ := LagR.iff.1 o
  have c1 := o1.cell 0
  have hok' := nJoin_ok hok f wt
  by_cases hbad : f < 0 ∨ 32 ≤ f ∨ wt < 1 ∨ 16 < wt
  · have e : nJoin L f wt = (1, L) := by unfold nJoin; rw [if_pos hbad]
    rw [e]; clear e hok'
    have fin : ∀ x, Ret (.int .i64 1) (LagR b N L :: R) w (.returned (.int .i64 1)) (w.alloc x) := fun x => ⟨rfl, o.more x, ⟨rfl, rfl, rfl⟩⟩
    have key : ∃ (t : Tg) (z : Bool), (Instr.lookup 61 (.map (some ab)) (.int .i64 f) true).run Try.prog w = .ok (.tuple #[.agg #[.int .i64 t.w, .int .i64 t.s], .bool z]) w := by
      cases hf : fget L f with
      | none => exact ⟨⟨0, 0, 0⟩, false, lookN_none (o1.up 1) hm hf⟩
      | some t => exact ⟨t, true, lookN_some (o1.up 1) hm hf⟩
    obtain ⟨t, z, hlk⟩ := key
    by_cases h1 : f < 0
    · clear hbad
      go_enter Try.func11, Try.ntmps11
      go_wp2
      go_ret
      exact fin _
    · by_cases h2 : 32 ≤ f
      · clear hbad
        go_enter Try.func11, Try.ntmps11
        go_wp2
        go_ret
        exact fin _
      · by_cases h3 : wt < 1
        · clear hbad
          go_enter Try.func11, Try.ntmps11
          go_wp2
          go_ret
          exact fin _
        · have h4 : 16 < wt := by omega
          clear hbad
          go_enter Try.func11, Try.ntmps11
          go_wp2
          go_ret
          exact fin _
  · have h1 : ¬ f < 0 := by omega
    have h2 : ¬ 32 ≤ f := by omega
    have h3 : ¬ wt < 1 := by omega
    have h4 : ¬ 16 < wt := by omega
    cases hf : fget L f with
    | some t =>
      have e : nJoin L f wt = (7, L) := by unfold nJoin; rw [if_neg hbad, hf]; rfl
      rw [e]; clear e hbad hok'
      have hlk := lookN_some (o1.up 1) hm hf
      clear hf
      go_enter Try.func11, Try.ntmps11
      go_wp2
      go_ret
      exact ⟨rfl, o.more _, ⟨rfl, rfl, rfl⟩⟩
    | none =>
      have e : nJoin L f wt = (0, insT ⟨f, wt, 0⟩ L) := by unfold nJoin; rw [if_neg hbad, hf]; rfl
      rw [e] at hok' ⊢
      clear e hbad
      have hlk := lookN_none (o1.up 1) hm hf
      have hom := o1.alloc (.cells #[.int .i64 0, .int .i64 0] 65)
      have hrep : RepN (mput m f ⟨f, wt, 0⟩) (insT ⟨f, wt, 0⟩ L) := hm.ins (x := ⟨f, wt, 0⟩) hf (by refine ⟨?_, ?_, ?_, ?_⟩ <;> (simp only; omega))
      have hbl := o1.celLt
      clear hf
      go_enter Try.func11, Try.ntmps11
      go_wp2_with (at_mapUpdate; refine wpList_mapUpdate_mpI (f := accV) rfl _ _ _ rfl Try.underlying61 Try.underlying3 (hom.up 2) f ⟨f, wt, 0⟩ rfl rfl rfl ?c1)
      case c1 =>
      intro w1 o2 k2
      go_wp2
      go_ret
      exact ⟨rfl, LagR.iff.2 ⟨ab, _, hrep, hok', o2.re [1, 2, 0] 1⟩, k2.al⟩

def lagV (L : List Tg) (f : Int) : Value := match fget L f with
  | some t => .tuple #[.int .i64 t.s, .bool true]
  | none => .tuple #[.int .i64 0, .bool false]
theorem lagLag_spec (f : Int) (o : Own w (LagR b N L :: R)) :
    Calls Try.prog 15 #[.pointer (some ⟨b, 0, none⟩), .int .i64 f] w (Ret (lagV L f) (LagR b N L :: R) w) := by
  obtain ⟨ab, m, hm, hok, o1⟩ := LagR.iff.1 o
  have c1 := o1.cell 0
  have key : ∃ (wt s : Int) (z : Bool), (Instr.lookup 61 (.map (some ab)) (.int .i64 f) true).run Try.prog w = .ok (.tuple #[.agg #[.int .i64 wt, .int .i64 s], .bool z]) w ∧ lagV L f = .tuple #[.int .i64 s, .bool z] := by
    unfold lagV
    cases hf : fget L f with
    | none => exact ⟨0, 0, false, lookN_none (o1.up 1) hm hf, rfl⟩
    | some t => exact ⟨t.w, t.s, true, lookN_some (o1.up 1) hm hf, rfl⟩
  obtain ⟨wt, s, z, hlk, e⟩ := key
  rw [e]; clear e
  go_enter Try.func15, Try.ntmps15
  go_wp2
  go_ret2
  exact ⟨rfl, o.more _, ⟨rfl, rfl, rfl⟩⟩

set_option maxHeartbeats 3200000 in
set_option maxRecDepth 100000 in
theorem lagSetw_spec (f wt : Int) (o : Own w (LagR b N L :: R)) :
    Calls Try.prog 18 #[.pointer (some ⟨b, 0, none⟩), .int .i64 f, .int .i64 wt] w (Ret (.int .i64 (nSetw L f wt).1) (LagR b N (nSetw L f wt).2 :: R) w) := by
  obtain ⟨ab, m, hm, hok, o1⟩ := LagR.iff.1 o
  have c1 := o1.cell 0
  have hok' := nSetw_ok hok f wt
  cases hf : fget L f with
  | none =>
    have e : nSetw L f wt = (6, L) := by unfold nSetw; rw [hf]
    rw [e]; clear e hok'
    have hlk := lookN_none (o1.up 1) hm hf
    clear hf
    go_enter Try.func18, Try.ntmps18
    go_wp2
    go_ret
    exact ⟨rfl, o.more _, ⟨rfl, rfl, rfl⟩⟩
  | some t =>
    have hlk := lookN_some (o1.up 1) hm hf
    by_cases hbad : wt < 1 ∨ 16 < wt
    · have e : nSetw L f wt = (1, L) := by unfold nSetw; rw [hf]; simp only; rw [if_pos hbad]
      rw [e]; clear e hok' hf
      by_cases h1 : wt < 1
      · clear hbad
        go_enter Try.func18, Try.ntmps18
        go_wp2
        go_ret
        exact ⟨rfl, o.more _, ⟨rfl, rfl, rfl⟩⟩
      · have h2 : 16 < wt := by omega
        clear hbad
        go_enter Try.func18, Try.ntmps18
        go_wp2
        go_ret
        exact ⟨rfl, o.more _, ⟨rfl, rfl, rfl⟩⟩
    · have e : nSetw L f wt = (0, setT ⟨f, wt, t.s⟩ L) := by unfold nSetw; rw [hf]; simp only; rw [if_neg hbad]
      rw [e] at hok' ⊢
      obtain ⟨h5, h6⟩ := fget_some hf
      have hr := hok.ok.rng t h5
      have h1 : ¬ wt < 1 := by omega
      have h2 : ¬ 16 < wt := by omega
      have hrep : RepN (mput m f ⟨f, wt, t.s⟩) (setT ⟨f, wt, t.s⟩ L) := hm.set (x := ⟨f, wt, t.s⟩) (by show fget L f ≠ none; rw [hf]; simp) (by refine ⟨?_, ?_, ?_, ?_⟩ <;> (simp only; omega))
      clear e hbad hf hr h5 h6
      have hos := o1.alloc (.cells #[.int .i64 wt, .int .i64 t.s] 65)
      have hbl := o1.celLt
      have hbn : b ≠ w.heap.size := by omega
      go_enter Try.func18, Try.ntmps18
      go_wp2
      refine wp_region_tail 6 (by kernel_rfl) (by kernel_rfl) ?_
      simp only [List.take_succ_cons, List.take_zero, List.drop_succ_cons, List.drop_zero]
      repeat still_step
      refine wpStill_nil ?_
      go_wp2_with (at_mapUpdate; refine wpList_mapUpdate_mpI (f := accV) rfl _ _ _ rfl Try.underlying61 Try.underlying3 ((hos.up 2).drew) f ⟨f, wt, t.s⟩ rfl rfl rfl ?c1)
      case c1 =>
      intro w1 o2 k2
      go_wp2
      go_ret
      exact ⟨rfl, LagR.iff.2 ⟨ab, _, hrep, hok', o2.re [1, 2, 0] 1⟩, ⟨k2.os, k2.tape, k2.output⟩⟩
end
end Go.Proofs.Ytalkmeclkjnjnaa
