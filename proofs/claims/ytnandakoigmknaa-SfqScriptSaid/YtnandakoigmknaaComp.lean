/- The order of comp: New, Time, Tag, least, Select. -/
import Derived.Test.YtnandakoigmknaaKeys
import Derived.Test.YtnandakoigmknaaRange
import Derived.Deep.DeepCutAuto
namespace Go.Proofs.Ytnandakoigmknaa
open Go.RowKit
open SP

/-- The order behind block b: when it is rebased, the weights of the eligible flows, the tags, the time. -/
def OrdC (b : Nat) (reb : Int) (eb tb : Nat) (el tg : List (Int × Int)) (tm : Int) : SP :=
  st [cel b 83 [.int .i64 reb, .map (some eb), .map (some tb), .int .i64 tm], mpI (Value.int .i64) eb el, mpI (Value.int .i64) tb tg]
def OrderR (b : Nat) (reb : Int) (el tg : List (Int × Int)) (tm : Int) : SP := ex fun (p : Nat × Nat) => OrdC b reb p.1 p.2 el tg tm

section
variable {W w w' : World} {b : Nat} {reb tm : Int} {el tg : List (Int × Int)} {R : List SP}

theorem OrderR.iff : Own w (OrderR b reb el tg tm :: R) ↔ ∃ eb tb, Own w (cel b 83 [.int .i64 reb, .map (some eb), .map (some tb), .int .i64 tm] :: mpI (Value.int .i64) eb el :: mpI (Value.int .i64) tb tg :: R) := by
  constructor
  · intro o
    obtain ⟨⟨eb, tb⟩, h⟩ := Own.ex.1 o
    exact ⟨eb, tb, Own.st.1 h⟩
  · rintro ⟨eb, tb, h⟩
    exact Own.ex.2 ⟨(eb, tb), Own.st.2 h⟩

theorem OrdC.iff {eb tb : Nat} : Own w (OrdC b reb eb tb el tg tm :: R) ↔ Own w (cel b 83 [.int .i64 reb, .map (some eb), .map (some tb), .int .i64 tm] :: mpI (Value.int .i64) eb el :: mpI (Value.int .i64) tb tg :: R) := Own.st
theorem OrderR.ordC : Own w (OrderR b reb el tg tm :: R) ↔ ∃ eb tb, Own w (OrdC b reb eb tb el tg tm :: R) := by
  constructor
  · intro o
    obtain ⟨⟨eb, tb⟩, h⟩ := Own.ex.1 o
    exact ⟨eb, tb, h⟩
  · rintro ⟨eb, tb, h⟩
    exact Own.ex.2 ⟨(eb, tb), h⟩

theorem Try.zeroI (w : World) : (zeroValue 3).run Try.prog w = .ok (.int .i64 0) w := by kernel_rfl
theorem Try.zeroL (w : World) : (zeroValue 2).run Try.prog w = .ok (.int .i64 0) w := by kernel_rfl

def tget (m : List (Int × Int)) (k : Int) : Int := (mget m k).getD 0

theorem lookII (mb : Nat) {m : List (Int × Int)} (o : Own w (mpI (Value.int .i64) mb m :: R)) (k : Int) (ok : Bool) :
    (Instr.lookup 80 (.map (some mb)) (.int .i64 k) ok).run Try.prog w = .ok (if ok then .tuple #[.int .i64 (tget m k), .bool (mget m k).isSome] else .int .i64 (tget m k)) w := by
  rw [run_lookup_mpI Try.underlying80 Try.underlying3 Try.zeroI o k ok]
  unfold tget
  cases mget m k <;> rfl
theorem lookIL (mb : Nat) {m : List (Int × Int)} (o : Own w (mpI (Value.int .i64) mb m :: R)) (k : Int) (ok : Bool) :
    (Instr.lookup 81 (.map (some mb)) (.int .i64 k) ok).run Try.prog w = .ok (if ok then .tuple #[.int .i64 (tget m k), .bool (mget m k).isSome] else .int .i64 (tget m k)) w := by
  rw [run_lookup_mpI Try.underlying81 Try.underlying3 Try.zeroL o k ok]
  unfold tget
  cases mget m k <;> rfl

set_option maxHeartbeats 800000 in
set_option maxRecDepth 100000 in
theorem compNew_spec (r : Int) (h1 : 1 ≤ r) (h2 : r ≤ 1099511627776) (o : Own w R) :
    Calls Try.prog 13 #[.int .i64 r] w fun e w' => ∃ b, Ret (.tuple #[.pointer (some ⟨b, 0, none⟩), .int .i64 0]) (OrderR b r [] [] 0 :: R) w e w' := by
  have hmm := @run_makeMap Try.prog
  go_enter Try.func13, Try.ntmps13
  go_wp2
  go_ret2
  have o1 := (o.mpI_made (f := Value.int .i64)).mpI_made (f := Value.int .i64) (α := Int)
  have o2 := (o1.swap).alloc (.cells #[.int .i64 r, .map (some w.heap.size), .map (some (w.heap.size + 1)), .int .i64 0] 83)
  simp only [World.size_alloc] at o2
  exact ⟨_, rfl, OrderR.iff.2 ⟨w.heap.size, w.heap.size + 1, o2⟩, ⟨rfl, rfl, rfl⟩⟩

theorem compTime_spec (o : Own w (OrderR b reb el tg tm :: R)) : Calls Try.prog 21 #[.pointer (some ⟨b, 0, none⟩)] w (Ret (.int .i64 tm) (OrderR b reb el tg tm :: R) w) := by
  obtain ⟨eb, tb, o1⟩ := OrderR.iff.1 o
  have c3 := o1.cell 3
  go_enter Try.func21, Try.ntmps21
  go_wp2
  go_ret
  exact ⟨rfl, o, ⟨rfl, rfl, rfl⟩⟩

theorem compTag_spec (k : Int) (o : Own w (OrderR b reb el tg tm :: R)) : Calls Try.prog 20 #[.pointer (some ⟨b, 0, none⟩), .int .i64 k] w (Ret (.int .i64 (tget tg k)) (OrderR b reb el tg tm :: R) w) := by
  obtain ⟨eb, tb, o1⟩ := OrderR.iff.1 o
  have c2 := o1.cell 2
  have hlk := lookIL tb (o1.up 2) k false
  simp only [Bool.false_eq_true, if_false] at hlk
  go_enter Try.func20, Try.ntmps20
  go_wp2
  go_ret
  exact ⟨rfl, o, ⟨rfl, rfl, rfl⟩⟩

/-- The first flow with the least tag, or -1. -/
def leastL (tg : List (Int × Int)) : List Int → Int → Int
  | [], best => best
  | f :: ks, best => leastL tg ks (if best < 0 ∨ tget tg f < tget tg best then f else best)
def leastF (el tg : List (Int × Int)) : Int := leastL tg (sortK el) (-1)

def LeastRel (b eb tb : Nat) (reb tm : Int) (el tg : List (Int × Int)) (a : Option Addr) (cap : Nat) (ks : List Int) (T : Int) (R : List SP) (w : World) (v3 v13 : Value) (wr : World) : Prop :=
  ∃ (i : Nat) (best : Int), v13 = .int .i64 (i : Int) ∧ v3 = .int .i64 best ∧ i ≤ ks.length ∧ leastL tg (ks.drop i) best = T ∧ -9223372036854775808 ≤ best ∧ best ≤ 9223372036854775807 ∧
    Own wr (slc 3 1 a ks.length cap (ks.map (Value.int .i64)) :: OrdC b reb eb tb el tg tm :: R) ∧ Calm w wr

theorem sortK_length {α : Type} (m : List (Int × α)) : (sortK m).length = m.length := by unfold sortK; rw [List.length_mergeSort, List.length_map]
theorem sortK_mem {α : Type} {m : List (Int × α)} {k : Int} : k ∈ sortK m ↔ k ∈ m.map (·.1) := by unfold sortK; exact (List.mergeSort_perm _ _).mem_iff

set_option maxHeartbeats 1600000 in
set_option maxRecDepth 100000 in
theorem leastC_spec {eb tb : Nat} (hk : KeyOk el) (hn : el.length ≤ 1000) (o : Own w (OrdC b reb eb tb el tg tm :: R)) :
    Calls Try.prog 44 #[.pointer (some ⟨b, 0, none⟩)] w (Ret (.int .i64 (leastF el tg)) (OrdC b reb eb tb el tg tm :: R) w) := by
  have o1 := OrdC.iff.1 o
  have c1 := o1.cell 1
  go_enter Try.func44, Try.ntmps44
  go_wp2_with fail
  refine (keysInt_spec _ _).mono ?_
  rintro e1 w1 ⟨rfl, rfl⟩
  have o2 := ((o1.alloc (.cells #[.map (some eb)] 80)).up 2).up 1
  go_wp2_with fail
  refine (sortedInt_spec w.heap.size hk (by omega) o2).mono ?_
  rintro e2 w2 ⟨a, cap, rfl, o3, k3⟩
  have hl := sortK_length el
  have hkm : ∀ k ∈ sortK el, -9223372036854775808 ≤ k ∧ k ≤ 9223372036854775807 := fun k h => by
    obtain ⟨x, hx, rfl⟩ := List.mem_map.1 (sortK_mem.1 h)
    exact hk.2 x hx
  have hT : LeastRel b eb tb reb tm el tg a cap (sortK el) (leastF el tg) R w (.int .i64 (-1)) (.int .i64 0) w2 :=
    ⟨0, -1, rfl, rfl, Nat.zero_le _, rfl, by omega, by omega, by
      rw [hl]
      refine Own.swap (OrdC.iff.2 ?_)
      exact ((o3.up 3).up 2).up 3, ⟨k3.os, k3.tape, k3.output⟩⟩
  generalize leastF el tg = T at *
  generalize hks : sortK el = ks at *
  rw [← hl]
  have hkl : ks.length ≤ 1000 := by omega
  have Hl := Lib.hid hl
  clear hl o3 k3 o2 o1 c1 hks
  go_wp2
  go_loopw [3, 13] (fun v3 v13 wr => LeastRel b eb tb reb tm el tg a cap ks T R w v3 v13 wr) (fun _ v13 _ => ks.length - (intOf v13).toNat)
  case atStart => exact hT
  case round =>
    obtain ⟨i, best, rfl, rfl, hi, hT, hb1, hb2, oR, kR⟩ := hrel
    have HT := Lib.hid hT
    clear hT
    by_cases hlt : i < ks.length
    · obtain ⟨f, hf⟩ : ∃ f, ks[i]? = some f := ⟨_, List.getElem?_eq_getElem hlt⟩
      obtain ⟨g, rfl, hc, _, _⟩ := oR.slc_cell (by omega)
      have d0 := hc i (.int .i64 f) (by rw [List.getElem?_map, hf]; rfl)
      have hfr := hkm f (List.mem_of_getElem? hf)
      have o4 := OrdC.iff.1 (oR.up 1)
      have c2 := o4.cell 2
      have l1 := fun n => lookIL tb ((o4.up 2).drewN n) f false
      have l2 := fun n => lookIL tb ((o4.up 2).drewN n) best false
      simp only [Bool.false_eq_true, if_false] at l1 l2
      have hstep : leastL tg (ks.drop i) best = leastL tg (ks.drop (i + 1)) (if best < 0 ∨ tget tg f < tget tg best then f else best) := by
        rw [List.drop_eq_getElem_cons hlt]
        have : ks[i] = f := (List.getElem?_eq_some_iff.1 hf).2
        rw [this]; rfl
      have Hstep := Lib.hid hstep
      clear hc hstep hf
      by_cases hbn : best < 0
      · have hd : decide (best < 0) = true := by simpa using hbn
        go_wp2
        go_quiet (fail)
        go_wp2
        go_roundw
        case rel => exact ⟨i + 1, f, by go_num, rfl, by omega, by rw [← HT.out, Hstep.out, if_pos (.inl hbn)], hfr.1, hfr.2, oR.drewN _, kR.dn _⟩
        case measure => simp [intOf]; omega
      · have hd : decide (best < 0) = false := by simpa using hbn
        by_cases hlt2 : tget tg f < tget tg best
        · have hd2 : decide (tget tg f < tget tg best) = true := by simpa using hlt2
          go_wp2
          go_quiet (fail)
          go_wp2
          go_roundw
          case rel => exact ⟨i + 1, f, by go_num, rfl, by omega, by rw [← HT.out, Hstep.out, if_pos (.inr hlt2)], hfr.1, hfr.2, oR.drewN _, kR.dn _⟩
          case measure => simp [intOf]; omega
        · have hd2 : decide (tget tg f < tget tg best) = false := by simpa using hlt2
          go_wp2
          go_quiet (fail)
          go_wp2
          go_roundw
          case rel => exact ⟨i + 1, best, by go_num, rfl, by omega, by rw [← HT.out, Hstep.out, if_neg (by omega)], hb1, hb2, oR.drewN _, kR.dn _⟩
          case measure => simp [intOf]; omega
    · go_wp2
      go_ret
      have : ks.drop i = [] := List.drop_eq_nil_of_le (by omega)
      have hTb : best = T := by rw [← HT.out, this]; rfl
      exact ⟨by rw [hTb]; rfl, oR.drop, kR⟩
theorem least_spec (hk : KeyOk el) (hn : el.length ≤ 1000) (o : Own w (OrderR b reb el tg tm :: R)) :
    Calls Try.prog 44 #[.pointer (some ⟨b, 0, none⟩)] w (Ret (.int .i64 (leastF el tg)) (OrderR b reb el tg tm :: R) w) := by
  obtain ⟨eb, tb, o1⟩ := OrderR.ordC.1 o
  exact (leastC_spec hk hn o1).mono fun e w' ⟨h1, h2, h3⟩ => ⟨h1, OrderR.ordC.2 ⟨eb, tb, h2⟩, h3⟩
end
end Go.Proofs.Ytnandakoigmknaa
