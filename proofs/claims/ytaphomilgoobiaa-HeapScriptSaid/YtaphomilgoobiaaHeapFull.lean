/- The law HeapFull: the walk of the law and of its example. -/
import Derived.Test.YtaphomilgoobiaaHeapOpsb
import Derived.Test.YtaphomilgoobiaaGen64
namespace Go.Proofs.Ytaphomilgoobiaa
open Go.RowKit
open SP
section
variable {W w w' : World} {R : List SP}

set_option maxHeartbeats 3200000 in
set_option maxRecDepth 100000 in
theorem awake4_spec (o : Own w R) : Calls Try.prog 14 #[] w (Ret (.bool true) R w) := by
  go_enter Try.func14, Try.ntmps14
  go_wp2_with fail
  refine (heapNew_spec 4 (by decide) (by decide) o).mono ?_
  rintro e1 w1 ⟨b, rfl, o1, k1⟩
  go_wp2_with fail
  refine (push_spec 3 5 (by decide) o1).mono ?_
  rintro e2 w2 ⟨rfl, o2, k2⟩
  have p1 : pushErr 4 3 [] [] = 0 := by decide
  have p2 : pushF 4 3 5 [] [] = ([(3, 5)], [(3, 0)]) := by decide
  rw [p2] at o2
  rw [p1]
  go_wp2_with fail
  refine (push_spec 1 5 (by decide) o2).mono ?_
  rintro e3 w3 ⟨rfl, o3, k3⟩
  have p3 : pushErr 4 1 [(3, 5)] [(3, 0)] = 0 := by decide
  have p4 : pushF 4 1 5 [(3, 5)] [(3, 0)] = ([(1, 5), (3, 5)], [(3, 1), (1, 0)]) := by decide
  rw [p4] at o3
  rw [p3]
  go_wp2_with fail
  refine (push_spec 2 4 (by decide) o3).mono ?_
  rintro e4 w4 ⟨rfl, o4, k4⟩
  have p5 : pushErr 4 2 [(1, 5), (3, 5)] [(3, 1), (1, 0)] = 0 := by decide
  have p6 : pushF 4 2 4 [(1, 5), (3, 5)] [(3, 1), (1, 0)] = ([(2, 4), (3, 5), (1, 5)], [(3, 1), (1, 2), (2, 0)]) := by decide
  rw [p6] at o4
  rw [p5]
  go_wp2_with fail
  have hc4 : Cons [(2, 4), (3, 5), (1, 5)] [(3, 1), (1, 2), (2, 0)] := by
    have h1 := (pushF_good (cap := 4) (key := 5) Cons.empty p1).1
    rw [p2] at h1
    have h2 := (pushF_good (cap := 4) (key := 5) h1 p3).1
    rw [p4] at h2
    have h3 := (pushF_good (cap := 4) (key := 4) h2 p5).1
    rw [p6] at h3
    exact h3
  refine (update_some 2 9 0 (2, 4) (by decide) (by rfl) rfl hc4 (by decide) o4).mono ?_
  rintro e5 w5 ⟨rfl, o5, k5⟩
  have p7 : updF 0 (2, 9) [(2, 4), (3, 5), (1, 5)] [(3, 1), (1, 2), (2, 0)] = ([(1, 5), (3, 5)] ++ [(2, 9)], [(3, 1), (1, 0), (2, 2)]) := by decide
  have hc5 := (updF_good (i := 0) (e := (2, 4)) (x := (2, 9)) (by rfl) rfl hc4).1
  rw [p7] at o5 hc5
  go_wp2_with fail
  refine (pop_some (1, 5) (2, 9) (by rfl) hc5 (by decide) o5).mono ?_
  rintro e6 w6 ⟨rfl, o6, k6⟩
  go_wp2
  go_ret
  exact ⟨rfl, o6.drop.more _, ((((k1.trans k2).trans k3).trans k4).trans k5).trans ⟨k6.os, k6.tape, k6.output⟩⟩

def FullRel (W : World) (hb cb k : Nat) (v : Value) (wr : World) : Prop :=
  ∃ (i : Nat) (es m : List (Int × Int)), v = .int .i64 (i : Int) ∧ i ≤ k ∧ es.length = i ∧ Cons es m ∧ (∀ id : Int, id ∈ es.map (·.1) ↔ 0 ≤ id ∧ id < i) ∧
    Own wr [HeapR hb (k : Int) es m, Ch W cb (3 * i), old W] ∧ Calm W wr

theorem u8_range {a : Int} (h : (Lit.int .u8 a).wf = true) : 0 ≤ a ∧ a ≤ 255 := by
  simp only [Lit.wf, Bool.and_eq_true, decide_eq_true_eq] at h
  rw [show IntKind.u8.min = 0 from by decide, show IntKind.u8.max = 255 from by decide] at h
  exact h

set_option maxHeartbeats 3200000 in
set_option maxRecDepth 100000 in
theorem heapFull_walk (a0 : Option Addr) (len0 cap0 : Nat) (z0 : List Int) (a1 : Int) (w : World) (w0 : IsRow .i64 w a0 len0 cap0 z0) (w1 : (Lit.int .u8 a1).wf = true) :
    Calls Try.prog 3 #[.slice a0 len0 cap0, .int .u8 a1] w fun e w' => e = .returned (.bool true) ∧ Below w.heap.size w w' := by
  obtain ⟨hr0, hr1⟩ := u8_range w1
  obtain ⟨k, hk⟩ : ∃ k : Nat, 1 + a1 % 20 = (k : Int) := ⟨(1 + a1 % 20).toNat, by omega⟩
  have hk1 : 1 ≤ k := by omega
  have hk2 : k ≤ 20 := by omega
  have oW := Own.start w
  go_enter Try.func3, Try.ntmps3
  go_wp2_with fail
  refine (genNew_spec a0 len0 cap0 z0 w0 oW).mono ?_
  rintro e1 v1 ⟨cb, rfl, o1, k1⟩
  go_wp2_with fail
  refine (heapNew_spec (k : Int) (by omega) (by omega) o1).mono ?_
  rintro e2 v2 ⟨hb, rfl, o2, k2⟩
  have hT : FullRel w hb cb k (.int .i64 0) v2 := ⟨0, [], [], rfl, Nat.zero_le _, rfl, Cons.empty, by intro id; simp <;> omega, o2, k1.trans k2⟩
  go_wp2
  go_loopw [9] (fun v wr => FullRel w hb cb k v wr) (fun v _ => k - (intOf v).toNat)
  case atStart => exact hT
  case round =>
    obtain ⟨i, es, m, rfl, hi, hl, hc, hid, oR, kR⟩ := hrel
    by_cases hlt : i < k
    · go_wp2_with fail
      refine (int64_spec (W := w) cb (3 * i) (by omega) ((oR.up 2).up 2)).mono ?_
      rintro e3 v3 ⟨x, hx0, hx1, rfl, o3, k3⟩
      have o4 := o3.up 2
      have hp : pushErr (k : Int) (i : Int) es m = 0 := by
        unfold pushErr
        rw [if_neg (by omega), if_neg, if_neg (by omega)]
        intro h
        have := (hid _).1 ((hc.isSome _).1 h)
        omega
      have hg := pushF_good (key := x) hc hp
      go_wp2_with fail
      refine (push_spec (i : Int) x (by omega) o4).mono ?_
      rintro e4 v4 ⟨rfl, o5, k5⟩
      rw [hp]
      have Hp := Lib.hid hp
      have Hl := Lib.hid hl
      clear hp hl
      go_wp2
      go_roundw
      case rel =>
        refine ⟨i + 1, _, _, by go_num, by omega, ?_, hg.1, ?_, o5, (kR.trans k3).trans k5⟩
        · rw [hg.2.length_eq]; simp [Hl.out]
        · intro id
          rw [(hg.2.map (·.1)).mem_iff]
          simp only [List.map_append, List.mem_append, hid, List.map_cons, List.map_nil, List.mem_singleton]
          omega
      case measure => simp [intOf]; omega
    · have hik : i = k := by omega
      have Hik := Lib.hid hik
      have Hl := Lib.hid hl
      clear hik hl
      have hp : pushErr (k : Int) (k : Int) es m = 4 := by
        have := Hl.out; have := Hik.out
        unfold pushErr
        rw [if_neg (by omega), if_neg, if_pos (by omega)]
        intro h
        have := (hid _).1 ((hc.isSome _).1 h)
        omega
      have hp0 : pushErr (k : Int) 0 es m = 7 := by
        unfold pushErr
        rw [if_neg (by omega), if_pos]
        exact (hc.isSome 0).2 ((hid 0).2 (by have := Hik.out; omega))
      have hf := pushF_bad (key := 0) (show pushErr (k : Int) (k : Int) es m ≠ 0 by rw [hp]; decide)
      have hf0 := pushF_bad (key := 0) (show pushErr (k : Int) 0 es m ≠ 0 by rw [hp0]; decide)
      go_wp2_with fail
      refine (push_spec (k : Int) 0 (by have := Hl.out; omega) oR).mono ?_
      rintro e4 v4 ⟨rfl, o5, k5⟩
      rw [hp]
      rw [hf] at o5
      clear hp hf
      go_wp2_with fail
      refine (push_spec 0 0 (by have := Hl.out; omega) o5).mono ?_
      rintro e6 v6 ⟨rfl, o6, k6⟩
      rw [hp0]
      rw [hf0] at o6
      clear hp0 hf0
      go_wp2_with fail
      refine (len_spec o6).mono ?_
      rintro e7 v7 ⟨rfl, o7, k7⟩
      have e1 : (es.length : Int) = (k : Int) := by have := Hl.out; have := Hik.out; omega
      rw [e1]
      clear e1
      go_wp2_with fail
      refine (next_spec w cb (3 * i) (k : Int) _ _ (by omega) (by omega) (by omega) ((o7.up 2).up 2)).mono ?_
      rintro e8 v8 ⟨x, hx0, hx1, rfl, o8, k8⟩
      obtain ⟨es0, l, rfl⟩ := last_split (es := es) (by have := Hl.out; have := Hik.out; omega)
      have hx := (hid x).2 (by have := Hik.out; omega)
      obtain ⟨e, he, hex⟩ := List.mem_map.1 hx
      obtain ⟨j, hj1, hj2⟩ := hc.find he
      rw [hex] at hj1
      have hle : es0.length + 1 = k := by have h1 := Hl.out; have h2 := Hik.out; rw [List.length_append, List.length_singleton] at h1; omega
      have Hle := Lib.hid hle
      clear hle hx
      go_wp2_with fail
      refine (remove_some x j e l hj1 hj2 hc (by have := Hle.out; omega) (o8.up 2)).mono ?_
      rintro e9 v9 ⟨rfl, o9, k9⟩
      obtain ⟨hc9, hp9⟩ := remF_good hj2 hc
      have hl9 : (remF j e l es0 m).1.length = es0.length := by have := hp9.length_eq; simp at this; exact this
      have hm9 : ∀ id : Int, id ∈ (remF j e l es0 m).1.map (·.1) → 0 ≤ id ∧ id < k := by
        intro id h
        have h1 : id ∈ (es0 ++ [l]).map (·.1) := (hp9.map (·.1)).mem_iff.1 (List.mem_cons_of_mem _ h)
        have := (hid id).1 h1
        have := Hik.out
        omega
      generalize remF j e l es0 m = F at *
      have Hl9 := Lib.hid hl9
      clear hl9 hp9 hj1 hj2 he hex
      have K9 := ((((kR.trans k5).trans k6).trans k7).trans k8).trans k9
      go_wp2_with fail
      refine (int64_spec (W := w) cb (3 * i + 1) (by omega) ((o9.up 2).up 2)).mono ?_
      rintro e10 v10 ⟨y, hy0, hy1, rfl, o10, k10⟩
      have hpa : pushErr (k : Int) (k : Int) F.1 F.2 = 0 := by
        have := Hl9.out; have := Hle.out
        unfold pushErr
        rw [if_neg (by omega), if_neg, if_neg (by omega)]
        intro h
        have := hm9 _ ((hc9.isSome _).1 h)
        omega
      obtain ⟨hca, hppa⟩ := pushF_good (key := y) hc9 hpa
      go_wp2_with fail
      have o10' := o10.up 2
      refine (push_spec (es := F.1) (k : Int) y (by have := Hl9.out; have := Hle.out; omega) o10').mono ?_
      rintro e11 v11 ⟨rfl, o11, k11⟩
      rw [hpa]
      have hpb : pushErr (k : Int) ((k : Int) + 1) (pushF (k : Int) (k : Int) y F.1 F.2).1 (pushF (k : Int) (k : Int) y F.1 F.2).2 = 4 := by
        have := Hl9.out; have := Hle.out
        have hlen := hppa.length_eq
        simp at hlen
        unfold pushErr
        rw [if_neg (by omega), if_neg, if_pos (by omega)]
        intro h
        have h1 := (hca.isSome _).1 h
        rw [(hppa.map (·.1)).mem_iff] at h1
        simp only [List.map_append, List.mem_append, List.map_cons, List.map_nil, List.mem_singleton] at h1
        rcases h1 with h1 | h1
        · have := hm9 _ h1; omega
        · omega
      have hlen := hppa.length_eq
      simp only [List.length_append, List.length_singleton] at hlen
      have Hlen := Lib.hid hlen
      have Hpb := Lib.hid hpb
      clear hpa hpb hlen hppa
      go_wp2_with fail
      refine (push_spec (es := (pushF (k : Int) (k : Int) y F.1 F.2).1) ((k : Int) + 1) 0 (by have := Hl9.out; have := Hle.out; have := Hlen.out; omega) o11).mono ?_
      rintro e12 v12 ⟨rfl, o12, k12⟩
      rw [Hpb.out]
      go_wp2_with fail
      refine (awake4_spec o12).mono ?_
      rintro e13 v13 ⟨rfl, o13, k13⟩
      go_wp2
      go_ret
      exact ⟨rfl, (o13.up 2).below ((((K9.trans k10).trans k11).trans k12).trans k13)⟩
end
end Go.Proofs.Ytaphomilgoobiaa
