/- Rules: lists of rules in memory; Classify of both sides. -/
import Derived.Test.YtbldanhjbnpdiaaGreatDoorRuV
import Derived.Test.YtbldanhjbnpdiaaGreatDoorRuT3
import Derived.Test.YtbldanhjbnpdiaaGreatDoorRuT4
import Derived.Test.YtbldanhjbnpdiaaGreatDoorApp
import Derived.Test.YtbldanhjbnpdiaaGreatDoorRuA
import Derived.Test.YtbldanhjbnpdiaaGreatDoorRuF
import Derived.Test.YtbldanhjbnpdiaaGreatDoorRuK
import Derived.Laws.Rows
namespace Go.Proofs.YtbldanhjbnpdiaaGreatDoor
open Go.RowKit
open SP
theorem Tryz.ruT : ElemT Tryz.prog 35 24 5 48 := ElemT.mk' (z := .agg #[.string ⟨#[]⟩, .int .i64 0, .int .i64 0, .int .i64 0, .int .i64 0]) Tryz.underlying35 (by kernel_rfl) rfl (by decide)
theorem ruC_len (r : Ru) : (ruC r).length = 5 := rfl
/-- The flow that the first matching rule gives. -/
def clsO : List Ru → Hd → Option Int
  | [], _ => none
  | r :: l, h => if matOK r h = true then some r.flow else clsO l h
def clsV (o : Option Int) : Value := .tuple #[.int .i64 (o.getD (-1)), .bool o.isSome]
theorem clsO_append : ∀ (a b : List Ru) (h : Hd), clsO (a ++ b) h = (clsO a h).or (clsO b h)
  | [], _, _ => rfl
  | r :: a, b, h => by
    show (if matOK r h = true then some r.flow else clsO (a ++ b) h) = (if matOK r h = true then some r.flow else clsO a h).or (clsO b h)
    split
    · rfl
    · exact clsO_append a b h
theorem clsO_next {l : List Ru} {i : Nat} {r : Ru} {h : Hd} (hr : l[i]? = some r) (hm : matOK r h = false) (hn : clsO (l.take i) h = none) : clsO (l.take (i + 1)) h = none := by
  rw [List.take_add_one, hr, clsO_append, hn]
  show clsO [r] h = none
  unfold clsO
  rw [if_neg (by rw [hm]; exact Bool.false_ne_true)]
  rfl
theorem clsO_hit {l : List Ru} {i : Nat} {r : Ru} {h : Hd} (hr : l[i]? = some r) (hm : matOK r h = true) (hn : clsO (l.take i) h = none) : clsO l h = some r.flow := by
  have hi := (List.getElem?_eq_some_iff.1 hr).1
  have e : l = l.take i ++ r :: l.drop (i + 1) := by
    conv => lhs; rw [← List.take_append_drop i l]
    rw [List.drop_eq_getElem_cons hi, (List.getElem?_eq_some_iff.1 hr).2]
  rw [e, clsO_append, hn]
  show clsO (r :: _) h = _
  unfold clsO
  rw [if_pos hm]
theorem clsO_end {l : List Ru} {i : Nat} {h : Hd} (hi : l.length ≤ i) (hn : clsO (l.take i) h = none) : clsO l h = none := by
  rw [List.take_of_length_le hi] at hn
  exact hn
section
variable {W w w' : World} {R : List SP}
/-- The cells of one rule of a list. -/
theorem rus_five {T : TypeId} {a : Option Addr} {n c : Nat} {l : List Ru} (hn : n = l.length) (o : Own w (slc T 5 a n c (flat ruC l) :: R)) {i : Nat} {r : Ru} (hr : l[i]? = some r) :
    ∃ g, a = some ⟨g, 0, none⟩ ∧ w.cell? ⟨g, i * 5, none⟩ = some (.string (mkB r.st)) ∧ w.cell? ⟨g, i * 5 + 1, none⟩ = some (.int .i64 r.cls) ∧ w.cell? ⟨g, i * 5 + 2, none⟩ = some (.int .i64 r.first) ∧
      w.cell? ⟨g, i * 5 + 3, none⟩ = some (.int .i64 r.last) ∧ w.cell? ⟨g, i * 5 + 4, none⟩ = some (.int .i64 r.flow) ∧ g < w.heap.size := by
  have := (List.getElem?_eq_some_iff.1 hr).1
  obtain ⟨g, h, hc, _, hlt⟩ := o.slc_cell (by omega)
  have key : ∀ j v, (ruC r)[j]? = some v → w.cell? ⟨g, i * 5 + j, none⟩ = some v := fun j v hv => by
    refine hc (i * 5 + j) v ?_
    rw [flat_get ruC_len l i j r hr (List.getElem?_eq_some_iff.1 hv).1]; exact hv
  exact ⟨g, h, key 0 _ rfl, key 1 _ rfl, key 2 _ rfl, key 3 _ rfl, key 4 _ rfl, hlt⟩

set_option maxHeartbeats 3200000 in
set_option maxRecDepth 100000 in
theorem ruClassify_spec {l : List Ru} {a : Option Addr} {n c : Nat} (h : Hd) (hn : n = l.length) (hn2 : n ≤ 1000) (hl : ∀ r ∈ l, r.st.length ≤ 2000000) (hh : h.st.length ≤ 2000000) (hT : TabsW W) (o : Own w (old W :: slc 24 5 a n c (flat ruC l) :: R)) :
    Calls Tryz.prog 14 #[.slice a n c, hdV h] w (Ret (clsV (clsO l h)) (old W :: slc 24 5 a n c (flat ruC l) :: R) w) := by
  have HN := Lib.hid hn
  have HL := Lib.hid fun (i : Nat) (r : Ru) (hr : l[i]? = some r) => hl r (List.mem_of_getElem? hr)
  have PM := Lib.hid fun (x : Ru) (hx : x.st.length ≤ 2000000) (w1 : World) (R1 : List SP) (o1 : Own w1 (old W :: R1)) => ruMatches_spec x h hx hh hT o1
  clear hn hl hh hT
  unfold hdV at PM ⊢
  have oB := (o.alloc (.cells #[.string (mkB h.st), .int .i64 h.cls, .int .i64 h.port, .int .i64 h.len, .int .i64 h.life] 29)).re [1, 2, 0]
  go_enter Tryz.func14, Tryz.ntmps14
  have hT1 : ∃ i : Nat, (Value.int .i64 0 : Value) = .int .i64 (i : Int) ∧ i ≤ n ∧ clsO (l.take i) h = none ∧ Own (w.alloc (.cells #[.string (mkB h.st), .int .i64 h.cls, .int .i64 h.port, .int .i64 h.len, .int .i64 h.life] 29)) (old W :: slc 24 5 a n c (flat ruC l) :: cel w.heap.size 29 [.string (mkB h.st), .int .i64 h.cls, .int .i64 h.port, .int .i64 h.len, .int .i64 h.life] :: R) ∧ Calm w (w.alloc (.cells #[.string (mkB h.st), .int .i64 h.cls, .int .i64 h.port, .int .i64 h.len, .int .i64 h.life] 29)) :=
    ⟨0, rfl, by omega, rfl, oB, calm_alloc (Calm.refl w)⟩
  go_wp2
  generalize w.heap.size = b3 at *
  go_loopw [10] (fun v wr => ∃ i : Nat, v = .int .i64 (i : Int) ∧ i ≤ n ∧ clsO (l.take i) h = none ∧ Own wr (old W :: slc 24 5 a n c (flat ruC l) :: cel b3 29 [.string (mkB h.st), .int .i64 h.cls, .int .i64 h.port, .int .i64 h.len, .int .i64 h.life] :: R) ∧ Calm w wr) (fun v _ => n - viN v)
  case atStart => exact hT1
  case round =>
    clear hT1 oB o
    obtain ⟨i, rfl, hi, hno, oR, kR⟩ := hrel
    by_cases hlt : i < n
    · have dl : decide (i < n) = true := decide_eq_true hlt
      obtain ⟨r, hr⟩ : ∃ r, l[i]? = some r := ⟨_, List.getElem?_eq_getElem (by rw [← HN.out]; exact hlt)⟩
      obtain ⟨g, hg, d0, d1, d2, d3, d4, d5⟩ := rus_five HN.out (oR.up 1) hr
      subst hg
      have oA := oR.alloc (.cells #[.string (mkB r.st), .int .i64 r.cls, .int .i64 r.first, .int .i64 r.last, .int .i64 r.flow] 24)
      have cc := Lib.hid (PM.out r (HL.out i r hr))
      unfold ruV at cc
      have hz1 := Lib.hid fun hm => clsO_next (h := h) hr hm hno
      have hz2 := Lib.hid fun hm => clsO_hit (h := h) hr hm hno
      clear hr hno PM
      generalize matOK r h = zz at *
      have x0_ := (oA.up 3).cell 0
      have x1_ := (oA.up 3).cell 1
      have x2_ := (oA.up 3).cell 2
      have x3_ := (oA.up 3).cell 3
      have x4_ := (oA.up 3).cell 4
      go_wp2_with fail
      refine (cc.out _ _ (oA.up 1)).mono ?_
      rintro e1 w1 ⟨rfl, o1, k1⟩
      cases zz with
      | false =>
        go_wp2
        go_roundw
        case rel => exact ⟨i + 1, by go_num, by omega, hz1.out (by first | rfl | trivial), (o1.up 1).drop, kR.trans (Calm.al k1)⟩
        case measure => simp [viN]; omega
      | true =>
        have y4_ := (o1.up 1).cell 4
        go_wp2
        go_ret2
        refine ⟨?_, ((o1.up 3).drop.up 1).drop, kR.trans (Calm.al k1)⟩
        rw [hz2.out (by first | rfl | trivial)]
        rfl
    · have dl : decide (i < n) = false := decide_eq_false hlt
      have he := clsO_end (h := h) (l := l) (i := i) (by rw [← HN.out]; omega) hno
      go_wp2
      go_ret2
      exact ⟨by rw [he]; rfl, (oR.up 2).drop, kR⟩
set_option maxHeartbeats 3200000 in
set_option maxRecDepth 100000 in
theorem refClassify_spec {l : List Ru} {a : Option Addr} {n c : Nat} (h : Hd) (hn : n = l.length) (hn2 : n ≤ 1000) (hl : ∀ r ∈ l, r.st.length ≤ 2000000) (hh : h.st.length ≤ 2000000) (hT : TabsW W) (o : Own w (old W :: slc 24 5 a n c (flat ruC l) :: R)) :
    Calls Tryz.prog 15 #[.slice a n c, hdV h] w (Ret (clsV (clsO l h)) (old W :: slc 24 5 a n c (flat ruC l) :: R) w) := by
  have HN := Lib.hid hn
  have HL := Lib.hid fun (i : Nat) (r : Ru) (hr : l[i]? = some r) => hl r (List.mem_of_getElem? hr)
  have PM := Lib.hid fun (x : Ru) (hx : x.st.length ≤ 2000000) (w1 : World) (R1 : List SP) (o1 : Own w1 (old W :: R1)) => refMatches_spec x h hx hh hT o1
  clear hn hl hh hT
  unfold hdV at PM ⊢
  have oB := (o.alloc (.cells #[.string (mkB h.st), .int .i64 h.cls, .int .i64 h.port, .int .i64 h.len, .int .i64 h.life] 29)).re [1, 2, 0]
  go_enter Tryz.func15, Tryz.ntmps15
  have hT1 : ∃ i : Nat, (Value.int .i64 0 : Value) = .int .i64 (i : Int) ∧ i ≤ n ∧ clsO (l.take i) h = none ∧ Own (w.alloc (.cells #[.string (mkB h.st), .int .i64 h.cls, .int .i64 h.port, .int .i64 h.len, .int .i64 h.life] 29)) (old W :: slc 24 5 a n c (flat ruC l) :: cel w.heap.size 29 [.string (mkB h.st), .int .i64 h.cls, .int .i64 h.port, .int .i64 h.len, .int .i64 h.life] :: R) ∧ Calm w (w.alloc (.cells #[.string (mkB h.st), .int .i64 h.cls, .int .i64 h.port, .int .i64 h.len, .int .i64 h.life] 29)) :=
    ⟨0, rfl, by omega, rfl, oB, calm_alloc (Calm.refl w)⟩
  go_wp2
  generalize w.heap.size = b3 at *
  go_loopw [6] (fun v wr => ∃ i : Nat, v = .int .i64 (i : Int) ∧ i ≤ n ∧ clsO (l.take i) h = none ∧ Own wr (old W :: slc 24 5 a n c (flat ruC l) :: cel b3 29 [.string (mkB h.st), .int .i64 h.cls, .int .i64 h.port, .int .i64 h.len, .int .i64 h.life] :: R) ∧ Calm w wr) (fun v _ => n - viN v)
  case atStart => exact hT1
  case round =>
    clear hT1 oB o
    obtain ⟨i, rfl, hi, hno, oR, kR⟩ := hrel
    by_cases hlt : i < n
    · have dl : decide (i < n) = true := decide_eq_true hlt
      obtain ⟨r, hr⟩ : ∃ r, l[i]? = some r := ⟨_, List.getElem?_eq_getElem (by rw [← HN.out]; exact hlt)⟩
      obtain ⟨g, hg, d0, d1, d2, d3, d4, d5⟩ := rus_five HN.out (oR.up 1) hr
      subst hg
      have cc := Lib.hid (PM.out r (HL.out i r hr))
      unfold ruV at cc
      have hz1 := Lib.hid fun hm => clsO_next (h := h) hr hm hno
      have hz2 := Lib.hid fun hm => clsO_hit (h := h) hr hm hno
      clear hno PM
      generalize matOK r h = zz at *
      have x0_ := (oR.up 2).cell 0
      have x1_ := (oR.up 2).cell 1
      have x2_ := (oR.up 2).cell 2
      have x3_ := (oR.up 2).cell 3
      have x4_ := (oR.up 2).cell 4
      go_wp2
      refine wp_region_tail 5 (by kernel_rfl) (by kernel_rfl) ?_
      simp only [List.take_succ_cons, List.take_zero, List.drop_succ_cons, List.drop_zero]
      repeat still_step
      refine wpStill_nil ?_
      go_wp2_with fail
      refine (cc.out _ _ oR.drew).mono ?_
      rintro e1 w1 ⟨rfl, o1, k1⟩
      cases zz with
      | false =>
        go_wp2
        go_roundw
        case rel => exact ⟨i + 1, by go_num, by omega, hz1.out (by first | rfl | trivial), o1, kR.trans ⟨k1.os, k1.tape, k1.output⟩⟩
        case measure => simp [viN]; omega
      | true =>
        obtain ⟨g', hg', _, _, _, _, y4_, _⟩ := rus_five HN.out (o1.up 1) hr
        cases hg'
        go_wp2
        go_ret2
        refine ⟨?_, (o1.up 2).drop, kR.trans ⟨k1.os, k1.tape, k1.output⟩⟩
        rw [hz2.out (by first | rfl | trivial)]
        rfl
    · have dl : decide (i < n) = false := decide_eq_false hlt
      have he := clsO_end (h := h) (l := l) (i := i) (by rw [← HN.out]; omega) hno
      go_wp2
      go_ret2
      exact ⟨by rw [he]; rfl, (oR.up 2).drop, kR⟩
end
/-- A loop that draws rules and appends them: k rounds are still to come. -/
def RuRel (W wb : World) (cb N k0 : Nat) (R : List SP) (vk vl : Value) (wr : World) : Prop :=
  ∃ (k : Nat) (l : List Ru) (a : Option Addr) (c : Nat), vk = .int .i64 (k : Int) ∧ k ≤ k0 ∧ vl = .slice a (k0 - k) c ∧ k0 - k = l.length ∧ (∀ r ∈ l, GRu r) ∧
    Own wr (Ch W cb (N + 6 * (k0 - k)) :: old W :: slc 24 5 a (k0 - k) c (flat ruC l) :: R) ∧ Calm wb wr
section
variable {W w wb : World} {R : List SP} {cb N k0 : Nat}
theorem RuRel.start (o : Own w (Ch W cb N :: old W :: R)) : RuRel W w cb N k0 R (.int .i64 (k0 : Int)) (.slice none 0 0) w := by
  refine ⟨k0, [], none, 0, rfl, Nat.le_refl _, ?_, by simp, fun r h => absurd h List.not_mem_nil, ?_, Calm.refl w⟩
  · rw [Nat.sub_self]
  · rw [Nat.sub_self]
    exact (Own.slc_nil o).re [1, 2, 0]
theorem RuRel.next {k : Nat} {l : List Ru} {r : Ru} {a : Option Addr} {c n : Nat} {x : Value} (hx : x = .int .i64 (k : Int)) (hk : k + 1 ≤ k0) (hn : n = k0 - (k + 1)) (hl : n = l.length) (hr : ∀ r ∈ l, GRu r) (hg : GRu r)
    (o : Own w (slc 24 5 a (n + 1) c (flat ruC l ++ ruC r) :: Ch W cb (N + 6 * n + 6) :: old W :: R)) (kc : Calm wb w) : RuRel W wb cb N k0 R x (.slice a (n + 1) c) w := by
  have e : k0 - k = n + 1 := by omega
  refine ⟨k, l ++ [r], a, c, hx, by omega, by rw [e], by rw [e, List.length_append, hl]; rfl, fun q h => ?_, ?_, kc⟩
  · rcases List.mem_append.1 h with h | h
    · exact hr q h
    · rw [List.mem_singleton.1 h]; exact hg
  · rw [e, flat_append]
    have e2 : flat ruC [r] = ruC r := by simp [flat]
    rw [e2, Nat.mul_add, ← Nat.add_assoc]
    exact o.re [1, 2, 0]
theorem grus_len {l : List Ru} (h : ∀ r ∈ l, GRu r) : ∀ r ∈ l, r.st.length ≤ 2000000 := fun r hr => by have := (h r hr).len; omega
end
end Go.Proofs.YtbldanhjbnpdiaaGreatDoor
