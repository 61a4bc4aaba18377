/- Chapter 13: what the laws share: weights, the example, equal lists of tags. -/
import Derived.Test.YtnandakoigmknaaSfqD
import Derived.Test.YtnandakoigmknaaCompS
namespace Go.Proofs.Ytnandakoigmknaa
open Go.RowKit
open SP

section
variable {W w w' : World} {R : List SP} {b : Nat} {reb : Int} {S : St}

theorem Ch.upto {W w : World} {b N M : Nat} {R : List SP} (o : Own w (Ch W b N :: R)) (h : N ≤ M := by omega) : Own w (Ch W b M :: R) := by
  obtain ⟨a, len, cap, zs, at_, h1, h2, h3, h4⟩ := Ch.open o
  exact Ch.shut h1 h2 (by omega) h4

def wtL : List Int := [1, 2, 1, 3, 4, 16, 7, 1, 5]
def WtPost (W : World) (b N : Nat) (R : List SP) (w : World) (e : Ending) (w' : World) : Prop :=
  ∃ x : Int, 1 ≤ x ∧ x ≤ 16 ∧ e = .returned (.int .i64 x) ∧ Own w' (Ch W b (N + 1) :: old W :: R) ∧ Calm w w'

set_option maxHeartbeats 800000 in
theorem weight_spec (N : Nat) (hN : (N : Int) ≤ 900000000000) (o : Own w (Ch W b N :: old W :: R)) :
    Calls Try.prog 34 #[.pointer (some ⟨b, 0, none⟩)] w (WtPost W b N R w) := by
  have o1 : Own (w.alloc (.cells (wtL.map (Value.int .i64)).toArray 3)) (cel w.heap.size 3 (wtL.map (Value.int .i64)) :: Ch W b N :: old W :: R) := o.alloc _
  have o2 := (o1.up 2).up 2
  go_enter Try.func34, Try.ntmps34
  go_wp2_with fail
  refine (next_spec W b N 9 _ _ (by omega) (by omega) (by omega) o2).mono ?_
  rintro e2 w2 ⟨x, hx0, hx1, rfl, o3, k3⟩
  obtain ⟨j, rfl⟩ : ∃ j : Nat, x = (j : Int) := ⟨x.toNat, by omega⟩
  have hj : j < wtL.length := by show j < 9; omega
  have c := Own.cell (v := .int .i64 wtL[j]) (o3.up 2) j (by rw [List.getElem?_map, List.getElem?_eq_getElem hj]; rfl)
  have hr : 1 ≤ wtL[j] ∧ wtL[j] ≤ 16 := by
    have : ∀ y ∈ wtL, 1 ≤ y ∧ y ≤ 16 := by decide
    exact this _ (List.getElem_mem hj)
  generalize wtL[j] = y at *
  go_wp2
  go_ret
  exact ⟨y, hr.1, hr.2, rfl, (o3.up 2).drop, ⟨k3.os, k3.tape, k3.output⟩⟩

/-! ### The example -/
def St0 : St := ⟨[], fun _ => 0, 0, 0⟩
def old13 : Int → Int := (joinR (joinR St0 0 1).2 1 2).2.old
def st13 (i : Nat) : St := match i with
  | 0 => ⟨[⟨0, 1, 0⟩, ⟨1, 2, 0⟩], old13, 0, 0⟩
  | 1 => ⟨[⟨0, 1, 72072000⟩, ⟨1, 2, 0⟩], old13, 0, 0⟩
  | 2 => ⟨[⟨0, 1, 72072000⟩, ⟨1, 2, 36036000⟩], old13, 0, 0⟩
  | 3 => ⟨[⟨0, 1, 72072000⟩, ⟨1, 2, 72072000⟩], old13, 36036000, 0⟩
  | 4 => ⟨[⟨0, 1, 144144000⟩, ⟨1, 2, 72072000⟩], old13, 72072000, 0⟩
  | 5 => ⟨[⟨0, 1, 144144000⟩, ⟨1, 2, 108108000⟩], old13, 72072000, 0⟩
  | _ => ⟨[⟨0, 1, 144144000⟩, ⟨1, 2, 144144000⟩], old13, 108108000, 0⟩
def want13 (i : Nat) : Int := [(0 : Int), 1, 1, 0, 1, 1].getD i 0
theorem st13_facts {i : Nat} (h : i < 6) : selT (st13 i).L = (want13 i, 0) ∧ chargeR 1099511627776 (st13 i) (want13 i) 100 = (0, st13 (i + 1)) ∧ (st13 i).aw = 0 ∧
    [Value.int .i64 0, .int .i64 1, .int .i64 1, .int .i64 0, .int .i64 1, .int .i64 1][i]? = some (.int .i64 (want13 i)) := by
  have : i = 0 ∨ i = 1 ∨ i = 2 ∨ i = 3 ∨ i = 4 ∨ i = 5 := by omega
  rcases this with rfl | rfl | rfl | rfl | rfl | rfl <;> exact ⟨by decide, by rfl, by rfl, by rfl⟩

def Aw13Rel (b g : Nat) (R : List SP) (w : World) (v : Value) (wr : World) : Prop :=
  ∃ i : Nat, v = .int .i64 (i : Int) ∧ i ≤ 6 ∧ Own wr (SfqR b 1099511627776 (st13 i) :: cel g 3 [.int .i64 0, .int .i64 1, .int .i64 1, .int .i64 0, .int .i64 1, .int .i64 1] :: R) ∧ Calm w wr

set_option maxHeartbeats 3200000 in
set_option maxRecDepth 100000 in
theorem awake13_spec (o : Own w R) : Calls Try.prog 33 #[] w (Ret (.bool true) R w) := by
  go_enter Try.func33, Try.ntmps33
  go_wp2_with fail
  refine (sfqNew_spec 1099511627776 (by decide) (by decide) o).mono ?_
  rintro e1 w1 ⟨b, rfl, o1, k1⟩
  have p1 : (joinR ⟨[], fun _ => 0, 0, 0⟩ 0 1).1 = 0 := by decide
  have j1 := sfqJoin_spec 0 1 o1
  rw [p1] at j1
  clear p1
  go_wp2_with fail
  refine j1.mono ?_
  rintro e2 w2 ⟨rfl, o2, k2⟩
  have p2 : (joinR (joinR ⟨[], fun _ => 0, 0, 0⟩ 0 1).2 1 2).1 = 0 := by decide
  have j2 := sfqJoin_spec 1 2 o2
  rw [p2] at j2
  clear p2
  go_wp2_with fail
  refine j2.mono ?_
  rintro e3 w3 ⟨rfl, o3, k3⟩
  have e0 : (joinR (joinR ⟨[], fun _ => 0, 0, 0⟩ 0 1).2 1 2).2 = st13 0 := by rfl
  rw [e0] at o3
  clear e0 j1 j2
  have hT : Aw13Rel b w3.heap.size R w (.int .i64 0) (w3.alloc (.cells #[.int .i64 0, .int .i64 1, .int .i64 1, .int .i64 0, .int .i64 1, .int .i64 1] 3)) :=
    ⟨0, rfl, by omega, (o3.alloc (.cells #[.int .i64 0, .int .i64 1, .int .i64 1, .int .i64 0, .int .i64 1, .int .i64 1] 3)).swap, k1.trans (k2.trans ⟨k3.os, k3.tape, k3.output⟩)⟩
  go_wp2
  go_loopw [4] (fun v wr => Aw13Rel b w3.heap.size R w v wr) (fun v _ => 6 - (intOf v).toNat)
  case atStart => exact hT
  case round =>
    clear hT
    obtain ⟨i, rfl, hi, oR, kR⟩ := hrel
    by_cases hlt : i < 6
    · obtain ⟨f1, f2, f3, f4⟩ := st13_facts hlt
      have hc := fun (w : World) (o : Own w (SfqR b 1099511627776 (st13 i) :: cel w3.heap.size 3 [.int .i64 0, .int .i64 1, .int .i64 1, .int .i64 0, .int .i64 1, .int .i64 1] :: R)) => (o.up 1).cell i f4
      have Hc := Lib.hid hc
      have hs := sfqSelect_spec oR
      rw [f1] at hs
      dsimp only at hs
      have HF2 := Lib.hid f2
      have HF3 := Lib.hid f3
      clear f1 f2 f3 f4 hc
      generalize want13 i = x at *
      go_wp2_with fail
      refine hs.mono ?_
      rintro e4 w4 ⟨rfl, o4, k4⟩
      have hch := sfqCharge_spec x 100 (by rw [HF3.out]; decide) o4
      rw [HF2.out] at hch
      have d4 := Hc.out _ o4
      go_wp2_with fail
      refine hch.mono ?_
      rintro e5 w5 ⟨rfl, o5, k5⟩
      go_wp2
      go_roundw
      case rel => exact ⟨i + 1, by go_num, by omega, o5, kR.trans (k4.trans k5)⟩
      case measure => simp [intOf]; omega
    · go_wp2
      go_ret
      exact ⟨rfl, oR.drop.drop, kR⟩
end
end Go.Proofs.Ytnandakoigmknaa
