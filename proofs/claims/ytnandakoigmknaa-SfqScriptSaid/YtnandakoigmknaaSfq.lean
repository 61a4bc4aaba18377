/- The error-free reference of the program: New, Join, Leave, Tags, Time. -/
import Derived.Test.YtnandakoigmknaaSfqL
import Derived.Test.YtnandakoigmknaaRe
import Derived.Test.YtnandakoigmknaaRange
import Derived.Test.YtnandakoigmknaaComp
namespace Go.Proofs.Ytnandakoigmknaa
open Go.RowKit
open SP

def sfqCells (reb : Int) (ab rb : Nat) (tm aw : Int) : List Value := [.int .i64 reb, .map (some ab), .map (some rb), .int .i64 tm, .int .i64 aw]
def SfqR (b : Nat) (reb : Int) (S : St) : SP := ex fun (p : Nat × Nat × List (Int × Tg) × List (Int × Int)) =>
  st [pu (Rep p.2.2.1 S.L ∧ (∀ f, tget p.2.2.2 f = S.old f) ∧ Uniq p.2.2.2 ∧ StOk S), cel b 93 [.int .i64 reb, .map (some p.1), .map (some p.2.1), .int .i64 S.tm, .int .i64 S.aw], mpI tagV p.1 p.2.2.1, mpI (Value.int .i64) p.2.1 p.2.2.2]

section
variable {W w w' : World} {b : Nat} {reb : Int} {S : St} {R : List SP}

theorem SfqR.iff : Own w (SfqR b reb S :: R) ↔ ∃ ab rb m rem, Rep m S.L ∧ (∀ f, tget rem f = S.old f) ∧ Uniq rem ∧ StOk S ∧
    Own w (cel b 93 [.int .i64 reb, .map (some ab), .map (some rb), .int .i64 S.tm, .int .i64 S.aw] :: mpI tagV ab m :: mpI (Value.int .i64) rb rem :: R) := by
  constructor
  · intro o
    obtain ⟨⟨ab, rb, m, rem⟩, h⟩ := Own.ex.1 o
    obtain ⟨⟨h1, h2, h3, h4⟩, h5⟩ := Own.pu.1 (Own.st.1 h)
    exact ⟨ab, rb, m, rem, h1, h2, h3, h4, h5⟩
  · rintro ⟨ab, rb, m, rem, h1, h2, h3, h4, h5⟩
    exact Own.ex.2 ⟨(ab, rb, m, rem), Own.st.2 (Own.pu.2 ⟨⟨h1, h2, h3, h4⟩, h5⟩)⟩

theorem SfqR.ok (o : Own w (SfqR b reb S :: R)) : StOk S := by
  obtain ⟨_, _, _, _, _, _, _, h, _⟩ := SfqR.iff.1 o
  exact h

theorem Try.zeroT (w : World) : (zeroValue 64).run Try.prog w = .ok (.agg #[.int .i64 0, .int .i64 0, .int .i64 0]) w := by kernel_rfl
theorem Try.tagT : ElemT Try.prog 60 64 3 24 := ElemT.mk' (z := .agg #[.int .i64 0, .int .i64 0, .int .i64 0]) Try.underlying60 (by kernel_rfl) rfl (by decide)

section
variable {ab : Nat} {m : List (Int × Tg)} {L : List Tg} {k : Int} {t : Tg}
theorem lookT_some (o : Own w (mpI tagV ab m :: R)) (hm : Rep m L) (h : fget L k = some t) :
    (Instr.lookup 91 (.map (some ab)) (.int .i64 k) true).run Try.prog w = .ok (.tuple #[.agg #[.int .i64 t.f, .int .i64 t.w, .int .i64 t.s], .bool true]) w := by
  rw [run_lookup_mpI Try.underlying91 Try.underlying3 Try.zeroT o k true, hm.get, h]; rfl
theorem lookT_one (o : Own w (mpI tagV ab m :: R)) (hm : Rep m L) (h : fget L k = some t) :
    (Instr.lookup 91 (.map (some ab)) (.int .i64 k) false).run Try.prog w = .ok (.agg #[.int .i64 t.f, .int .i64 t.w, .int .i64 t.s]) w := by
  rw [run_lookup_mpI Try.underlying91 Try.underlying3 Try.zeroT o k false, hm.get, h]; rfl
theorem lookT_none (o : Own w (mpI tagV ab m :: R)) (hm : Rep m L) (h : fget L k = none) :
    (Instr.lookup 91 (.map (some ab)) (.int .i64 k) true).run Try.prog w = .ok (.tuple #[.agg #[.int .i64 0, .int .i64 0, .int .i64 0], .bool false]) w := by
  rw [run_lookup_mpI Try.underlying91 Try.underlying3 Try.zeroT o k true, hm.get, h]; rfl
end

set_option maxHeartbeats 800000 in
theorem sfqNew_spec (r : Int) (h1 : 1 ≤ r) (h2 : r ≤ 1099511627776) (o : Own w R) :
    Calls Try.prog 28 #[.int .i64 r] w fun e w' => ∃ b, Ret (.tuple #[.pointer (some ⟨b, 0, none⟩), .int .i64 0]) (SfqR b r ⟨[], fun _ => 0, 0, 0⟩ :: R) w e w' := by
  have hmm := @run_makeMap Try.prog
  go_enter Try.func28, Try.ntmps28
  go_wp2
  go_ret2
  have o1 := (o.mpI_made (f := tagV)).mpI_made (f := Value.int .i64) (α := Int)
  have o2 := (o1.swap).alloc (.cells #[.int .i64 r, .map (some w.heap.size), .map (some (w.heap.size + 1)), .int .i64 0, .int .i64 0] 93)
  simp only [World.size_alloc] at o2
  exact ⟨_, rfl, SfqR.iff.2 ⟨w.heap.size, w.heap.size + 1, [], [], Rep.start, fun _ => rfl, by simp [Uniq], StOk.start, o2⟩, ⟨rfl, rfl, rfl⟩⟩

theorem sfqTime_spec (o : Own w (SfqR b reb S :: R)) : Calls Try.prog 38 #[.pointer (some ⟨b, 0, none⟩)] w (IsRet (.int .i64 S.tm) w) := by
  obtain ⟨ab, rb, m, rem, hm, hold, hur, hok, o1⟩ := SfqR.iff.1 o
  have c3 := o1.cell 3
  clear hold
  go_enter Try.func38, Try.ntmps38
  go_wp2
  go_ret
  exact ⟨rfl, rfl⟩

set_option maxHeartbeats 3200000 in
set_option maxRecDepth 100000 in
theorem sfqJoin_spec (f wt : Int) (o : Own w (SfqR b reb S :: R)) :
    Calls Try.prog 29 #[.pointer (some ⟨b, 0, none⟩), .int .i64 f, .int .i64 wt] w (Ret (.int .i64 (joinR S f wt).1) (SfqR b reb (joinR S f wt).2 :: R) w) := by
  obtain ⟨ab, rb, m, rem, hm, hold, hur, hok, o1⟩ := SfqR.iff.1 o
  have c1 := o1.cell 1
  have Hold := Lib.hid hold
  clear hold
  by_cases hbad : f < 0 ∨ 32 ≤ f ∨ wt < 1 ∨ 16 < wt
  · have e : joinR S f wt = (1, S) := by unfold joinR joinE; rw [if_pos hbad]; rfl
    rw [e]; clear e
    have fin : ∀ x, Ret (.int .i64 1) (SfqR b reb S :: R) w (.returned (.int .i64 1)) (w.alloc x) := fun x => ⟨rfl, o.more x, ⟨rfl, rfl, rfl⟩⟩
    have key : ∃ (t : Tg) (z : Bool), (Instr.lookup 91 (.map (some ab)) (.int .i64 f) true).run Try.prog w = .ok (.tuple #[.agg #[.int .i64 t.f, .int .i64 t.w, .int .i64 t.s], .bool z]) w := by
      cases hf : fget S.L f with
      | none => exact ⟨⟨0, 0, 0⟩, false, lookT_none (o1.up 1) hm hf⟩
      | some t => exact ⟨t, true, lookT_some (o1.up 1) hm hf⟩
    obtain ⟨t, z, hlk⟩ := key
    by_cases h1 : f < 0
    · clear hbad
      go_enter Try.func29, Try.ntmps29
      go_wp2
      go_ret
      exact fin _
    · by_cases h2 : 32 ≤ f
      · clear hbad
        go_enter Try.func29, Try.ntmps29
        go_wp2
        go_ret
        exact fin _
      · by_cases h3 : wt < 1
        · clear hbad
          go_enter Try.func29, Try.ntmps29
          go_wp2
          go_ret
          exact fin _
        · have h4 : 16 < wt := by omega
          clear hbad
          go_enter Try.func29, Try.ntmps29
          go_wp2
          go_ret
          exact fin _
  · have h1 : ¬ f < 0 := by omega
    have h2 : ¬ 32 ≤ f := by omega
    have h3 : ¬ wt < 1 := by omega
    have h4 : ¬ 16 < wt := by omega
    cases hf : fget S.L f with
    | some t =>
      have e : joinR S f wt = (7, S) := by unfold joinR joinE; rw [if_neg hbad, hf]; rfl
      rw [e]; clear e hbad
      have hlk := lookT_some (o1.up 1) hm hf
      clear hf
      go_enter Try.func29, Try.ntmps29
      go_wp2
      go_ret
      exact ⟨rfl, o.more _, ⟨rfl, rfl, rfl⟩⟩
    | none =>
      have he : joinE S f wt = 0 := by unfold joinE; rw [if_neg hbad, hf]; rfl
      have e : joinR S f wt = (0, joinS S f wt) := by unfold joinR; rw [he, if_pos rfl]
      rw [e]; clear e hbad
      have hlk := lookT_none (o1.up 1) hm hf
      have hok1 := hok.join he
      have hom := o1.alloc (.cells #[.int .i64 0, .int .i64 0, .int .i64 0] 64)
      have l1 := lookIL rb ((hom.up 3).drew) f false
      simp only [Bool.false_eq_true, if_false] at l1
      have c2 := o1.cell 2
      have c3 := o1.cell 3
      have hbl := o1.celLt
      have hx : tget rem f = S.old f := Hold.out f
      obtain ⟨s, hs⟩ : ∃ s, max S.tm (tget rem f) = s := ⟨_, rfl⟩
      have hms : max S.tm (S.old f) = s := by rw [← hx]; exact hs
      have HS := Lib.hid hms
      clear hms hx
      have hrep : Rep (mput m f ⟨f, wt, s⟩) (joinS S f wt).L := by
        have h5 := hok.tm
        have h6 := hok.old f
        have := hm.ins (x := ⟨f, wt, s⟩) hf (by refine ⟨?_, ?_, ?_, ?_, ?_, ?_⟩ <;> (simp only; first | omega | (rw [← HS.out]; omega)))
        show Rep (mput m f ⟨f, wt, s⟩) (insT ⟨f, wt, max S.tm (S.old f)⟩ S.L)
        rw [HS.out]; exact this
      clear hf he
      go_enter Try.func29, Try.ntmps29
      go_wp2
      refine wp_region_tail 19 (by kernel_rfl) (by kernel_rfl) ?_
      simp only [List.take_succ_cons, List.take_zero, List.drop_succ_cons, List.drop_zero]
      repeat still_step
      refine wpStill_nil ?_
      go_wp2_with (at_mapUpdate; refine wpList_mapUpdate_mpI (f := tagV) rfl _ _ _ rfl Try.underlying91 Try.underlying3 ((hom.up 2).drew) f ⟨f, wt, s⟩ rfl rfl rfl ?c1)
      case c1 =>
      intro w1 o2 k2
      have d2 := (o2.up 2).cell 2
      go_wp2_with (at_delete; refine wpList_delete_mpI rfl _ _ rfl Try.underlying81 Try.underlying3 (o2.up 3) f rfl rfl ?c2)
      case c2 =>
      intro w3 o3 k3
      go_wp2
      go_ret
      refine ⟨rfl, SfqR.iff.2 ⟨ab, rb, _, _, hrep, fun g => ?_, hur.mdel f, hok1.1, ?_⟩, (Calm.trans ⟨k2.os, k2.tape, k2.output⟩ k3)⟩
      · show tget (mdel rem f) g = if g = f then 0 else S.old g
        unfold tget
        rw [mget_mdel hur]
        split
        · rfl
        · exact Hold.out g
      · exact o3.re [2, 3, 1, 0] 1
end
end Go.Proofs.Ytnandakoigmknaa
