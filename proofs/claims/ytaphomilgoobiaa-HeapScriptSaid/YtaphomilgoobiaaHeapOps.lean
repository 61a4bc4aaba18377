/- The heap: New, Len, Push. -/
import Derived.Test.YtaphomilgoobiaaHeapDown
namespace Go.Proofs.Ytaphomilgoobiaa
open Go.RowKit
open SP
section
variable {W w w' : World} {b : Nat} {cap : Int} {es m : List (Int × Int)} {R : List SP}

theorem Try.zeroInt (w : World) : (zeroValue 3).run Try.prog w = .ok (.int .i64 0) w := by kernel_rfl

theorem placeLook (mb : Nat) (o : Own w (mpI (Value.int .i64) mb m :: R)) (k : Int) (ok : Bool) :
    (Instr.lookup 58 (.map (some mb)) (.int .i64 k) ok).run Try.prog w = .ok (if ok then .tuple #[.int .i64 ((mget m k).getD 0), .bool (mget m k).isSome] else .int .i64 ((mget m k).getD 0)) w := by
  rw [run_lookup_mpI Try.underlying58 Try.underlying3 Try.zeroInt o k ok]
  cases mget m k <;> rfl

set_option maxHeartbeats 800000 in
set_option maxRecDepth 100000 in
theorem heapNew_spec (c : Int) (h1 : 1 ≤ c) (h2 : c ≤ 4096) (o : Own w R) :
    Calls Try.prog 8 #[.int .i64 c] w fun e w' => ∃ b, Ret (.tuple #[.pointer (some ⟨b, 0, none⟩), .int .i64 0]) (HeapR b c [] [] :: R) w e w' := by
  have hmm := @run_makeMap Try.prog
  go_enter Try.func8, Try.ntmps8
  go_wp2
  go_ret2
  have o1 := (o.mpI_made (f := Value.int .i64)).slc_nil (e := 41) (size := 2)
  have o2 := o1.alloc (.cells #[.int .i64 c, .slice none 0 0, .map (some w.heap.size)] 60)
  simp only [World.size_alloc] at o2
  exact ⟨_, rfl, HeapR.iff.2 ⟨none, 0, w.heap.size, o2⟩, ⟨rfl, rfl, rfl⟩⟩

set_option maxHeartbeats 800000 in
set_option maxRecDepth 100000 in
theorem heapNew_bad (c : Int) (h : c < 1 ∨ 4096 < c) (o : Own w R) :
    Calls Try.prog 8 #[.int .i64 c] w (Ret (.tuple #[.pointer none, .int .i64 1]) R w) := by
  rcases h with h | h
  · go_enter Try.func8, Try.ntmps8
    go_wp2
    go_ret2
    exact ⟨rfl, o, ⟨rfl, rfl, rfl⟩⟩
  · have h' : ¬ c < 1 := by omega
    go_enter Try.func8, Try.ntmps8
    go_wp2
    go_ret2
    exact ⟨rfl, o, ⟨rfl, rfl, rfl⟩⟩

theorem len_spec (o : Own w (HeapR b cap es m :: R)) : Calls Try.prog 11 #[.pointer (some ⟨b, 0, none⟩)] w (Ret (.int .i64 es.length) (HeapR b cap es m :: R) w) := by
  obtain ⟨a, c, mb, o1⟩ := HeapR.iff.1 o
  have c1 := o1.cell 1
  go_enter Try.func11, Try.ntmps11
  go_wp2
  go_ret
  exact ⟨rfl, o, ⟨rfl, rfl, rfl⟩⟩

def pushErr (cap : Int) (id : Int) (es m : List (Int × Int)) : Int :=
  if id < 0 ∨ 4096 ≤ id then 1 else if (mget m id).isSome then 7 else if (es.length : Int) = cap then 4 else 0
def pushF (cap : Int) (id key : Int) (es m : List (Int × Int)) : List (Int × Int) × List (Int × Int) :=
  if pushErr cap id es m = 0 then upF (id, key) es.length es.length (es ++ [(id, key)]) m else (es, m)

set_option maxHeartbeats 1600000 in
set_option maxRecDepth 100000 in
theorem push_spec (id key : Int) (h2 : (es.length : Int) ≤ 900000) (o : Own w (HeapR b cap es m :: R)) :
    Calls Try.prog 9 #[.pointer (some ⟨b, 0, none⟩), .int .i64 id, .int .i64 key] w
      (Ret (.int .i64 (pushErr cap id es m)) (HeapR b cap (pushF cap id key es m).1 (pushF cap id key es m).2 :: R) w) := by
  obtain ⟨a, c, mb, o1⟩ := HeapR.iff.1 o
  have c0 := o1.cell 0
  have c1 := o1.cell 1
  have c2 := o1.cell 2
  have hf := o1.frozen
  have hb := o1.celLt
  have hlk := placeLook mb (o1.up 2) id true
  simp only [if_true] at hlk
  by_cases h1 : id < 0 ∨ 4096 ≤ id
  · have e1 : pushErr cap id es m = 1 := if_pos h1
    have e2 : pushF cap id key es m = (es, m) := if_neg (by rw [e1]; decide)
    rw [e1, e2]; clear e1 e2
    rcases h1 with h1 | h1
    · go_enter Try.func9, Try.ntmps9
      go_wp2
      go_ret
      exact ⟨rfl, o, ⟨rfl, rfl, rfl⟩⟩
    · have h1' : ¬ id < 0 := by omega
      go_enter Try.func9, Try.ntmps9
      go_wp2
      go_ret
      exact ⟨rfl, o, ⟨rfl, rfl, rfl⟩⟩
  · have ha : ¬ id < 0 := by omega
    have hb' : ¬ 4096 ≤ id := by omega
    cases hm : (mget m id).isSome with
    | true =>
      have e1 : pushErr cap id es m = 7 := by unfold pushErr; rw [if_neg h1, if_pos hm]
      have e2 : pushF cap id key es m = (es, m) := if_neg (by rw [e1]; decide)
      rw [e1, e2]; clear e1 e2 h1
      rw [hm] at hlk
      go_enter Try.func9, Try.ntmps9
      go_wp2
      go_ret
      exact ⟨rfl, o, ⟨rfl, rfl, rfl⟩⟩
    | false =>
      rw [hm] at hlk
      by_cases h3 : (es.length : Int) = cap
      · have e1 : pushErr cap id es m = 4 := by unfold pushErr; rw [if_neg h1, if_neg (by rw [hm]; simp), if_pos h3]
        have e2 : pushF cap id key es m = (es, m) := if_neg (by rw [e1]; decide)
        rw [e1, e2]; clear e1 e2 h1
        have h3' : ((es.length : Int) == cap) = true := by simpa using h3
        clear h3
        go_enter Try.func9, Try.ntmps9
        go_wp2
        go_quiet (fail)
        go_wp2
        go_ret
        exact ⟨rfl, o, ⟨rfl, rfl, rfl⟩⟩
      · have e1 : pushErr cap id es m = 0 := by unfold pushErr; rw [if_neg h1, if_neg (by rw [hm]; simp), if_neg h3]
        have e2 : pushF cap id key es m = upF (id, key) es.length es.length (es ++ [(id, key)]) m := if_pos e1
        rw [e1, e2]; clear e1 e2 h1
        have h3' : ((es.length : Int) == cap) = false := by simpa using h3
        clear h3
        have oS := ((o1.up 1).alloc (.cells #[.int .i64 id, .int .i64 key] 41)).up 1
        go_enter Try.func9, Try.ntmps9
        go_wp2
        go_quiet (fail)
        go_wp2_with (at_builtin; refine wpList_append_slc rfl _ _ rfl Try.entT rfl (oS.drewN _) ⟨w.heap.size, 0, none⟩ 1 1 [.int .i64 id, .int .i64 key] rfl rfl ?c1 ?c2 ?c3 ?c4 ?c5)
        case c1 => exact Own.news (T := 41) ((o1.drewN _).alloc _)
        case c2 => intro u hu; simp at hu; rcases hu with rfl | rfl <;> rfl
        case c3 => unfold maxLen; omega
        case c4 => omega
        case c5 =>
          intro a' cap' w1 o2 k2
          have o3 := o2.up 2
          have d1 := o3.cell 1
          have hf1 := o3.frozen
          have hb1 := o3.celLt
          have e3 : flat ent es ++ [.int .i64 id, .int .i64 key] = flat ent (es ++ [(id, key)]) := by rw [flat_append]; rfl
          rw [e3] at o3
          have o4 := o3.setCell 1 (.slice a' (es.length + 1) cap')
          have o5 : Own (w1.setCell ⟨b, 1, none⟩ (.slice a' (es.length + 1) cap')) (HeapR b cap (es ++ [(id, key)]) m :: R) :=
            HeapR.iff.2 ⟨a', cap', mb, by rw [List.length_append]; exact (o4.up 2).drop⟩
          have q1 := o4.cell 1
          have he : (es ++ [(id, key)])[es.length]? = some (id, key) := by simp
          go_wp2_with fail
          refine (up_spec es.length (id, key) he (by rw [List.length_append]; simp; omega) o5).mono ?_
          rintro e6 w6 ⟨rfl, o6, k6⟩
          go_wp2
          go_ret
          exact ⟨rfl, o6, ⟨k6.os.trans k2.os, k6.tape.trans k2.tape, k6.output.trans k2.output⟩⟩
end
end Go.Proofs.Ytaphomilgoobiaa
