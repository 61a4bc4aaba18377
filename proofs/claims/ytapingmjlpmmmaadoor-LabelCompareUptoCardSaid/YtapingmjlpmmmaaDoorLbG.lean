/- The laws of names: that the program is there; names that are drawn; plain facts. -/
import Derived.Test.YtapingmjlpmmmaaDoorLbE
import Derived.Test.YtapingmjlpmmmaaDoorGenN
import Derived.Test.YtapingmjlpmmmaaDoorGenX
namespace Go.Proofs.YtapingmjlpmmmaaDoor
open Go.RowKit
open SP
theorem cmpN_anti : ∀ (l m : List Nat), cmpN l m = - cmpN m l
  | [], [] => rfl
  | [], _ :: _ => rfl
  | _ :: _, [] => rfl
  | x :: l, y :: m => by
    have h := cmpN_anti l m
    simp only [cmpN]
    (repeat' split) <;> omega
theorem cmpN_trans : ∀ (a b c : List Nat), cmpN a b ≤ 0 → cmpN b c ≤ 0 → cmpN a c ≤ 0
  | [], _, [], _, _ => by simp [cmpN]
  | [], _, _ :: _, _, _ => by simp [cmpN]
  | _ :: _, [], _, h, _ => by simp [cmpN] at h
  | _ :: _, _ :: _, [], _, h => by simp [cmpN] at h
  | x :: a, y :: b, z :: c, h1, h2 => by
    have h := cmpN_trans a b c
    simp only [cmpN] at *
    (repeat' split at h1) <;> (repeat' split at h2) <;> (repeat' split) <;> first | omega | exact h h1 h2
/-- A name whose folded form is a name. -/
structure Gx (x : ByteArray) : Prop where
  name : nameB x.data.toList = true
  size : x.size ≤ 24
  name' : nameB (foldB x.data.toList) = true
theorem Gx.foldS {x : ByteArray} (h : Gx x) : foldS x = ⟨(foldB x.data.toList).toArray⟩ := by unfold Go.Proofs.YtapingmjlpmmmaaDoor.foldS; rw [if_pos h.name]
theorem Gx.foldE {x : ByteArray} (h : Gx x) : foldE x = 0 := by unfold Go.Proofs.YtapingmjlpmmmaaDoor.foldE; rw [if_pos h.name]
theorem nameB_size {x : ByteArray} (h : nameB x.data.toList = true) : x.size ≤ 24 := by
  unfold nameB at h
  simp only [Bool.and_eq_true, decide_eq_true_eq] at h
  exact h.2
theorem Gx.fold {x : ByteArray} (h : Gx x) : Gx (Go.Proofs.YtapingmjlpmmmaaDoor.foldS x) := by
  rw [h.foldS]
  refine ⟨h.name', nameB_size h.name', ?_⟩
  show nameB (foldB (foldB _)) = true
  rw [foldB_twice]; exact h.name'
theorem Gx.twice {x : ByteArray} (h : Gx x) : Go.Proofs.YtapingmjlpmmmaaDoor.foldS (Go.Proofs.YtapingmjlpmmmaaDoor.foldS x) = Go.Proofs.YtapingmjlpmmmaaDoor.foldS x := by
  rw [h.fold.foldS]
  show (⟨(foldB (Go.Proofs.YtapingmjlpmmmaaDoor.foldS x).data.toList).toArray⟩ : ByteArray) = _
  rw [h.foldS]
  show (⟨(foldB (foldB _)).toArray⟩ : ByteArray) = _
  rw [foldB_twice]
theorem Gx.cmp {x y : ByteArray} (h : Gx x) (g : Gx y) : cmpS x y = cmpN (foldR x.data.toList) (foldR y.data.toList) := by unfold cmpS; rw [if_pos h.name, if_pos g.name]
theorem Gx.same {x : ByteArray} (h : Gx x) : cmpS x (Go.Proofs.YtapingmjlpmmmaaDoor.foldS x) = 0 := by
  rw [h.cmp h.fold, h.foldS]
  show cmpN _ (foldR (foldB _)) = 0
  rw [foldR_foldB]; exact (cmpN_eq _ _).2 rfl
theorem Gx.anti {x y : ByteArray} (h : Gx x) (g : Gx y) : cmpS x y = - cmpS y x := by rw [h.cmp g, g.cmp h]; exact cmpN_anti _ _
theorem Gx.zero {x y : ByteArray} (h : Gx x) (g : Gx y) : cmpS x y = 0 ↔ Go.Proofs.YtapingmjlpmmmaaDoor.foldS x = Go.Proofs.YtapingmjlpmmmaaDoor.foldS y := by
  rw [h.cmp g, cmpN_eq, h.foldS, g.foldS, ← foldB_inj]
  simp
theorem Gx.trans {x y z : ByteArray} (h : Gx x) (g : Gx y) (k : Gx z) (h1 : cmpS x y ≤ 0) (h2 : cmpS y z ≤ 0) : cmpS x z ≤ 0 := by
  rw [h.cmp g] at h1; rw [g.cmp k] at h2; rw [h.cmp k]; exact cmpN_trans _ _ _ h1 h2
def gdList : List ByteArray := [⟨#[97]⟩, ⟨#[97, 110, 110]⟩, ⟨#[65, 110, 110]⟩, ⟨#[98, 45, 49]⟩, ⟨#[195, 132, 98]⟩, ⟨#[206, 177, 120]⟩, ⟨#[97, 46, 98, 95, 99]⟩, ⟨#[122, 57]⟩]
theorem gd_k : ∀ g ∈ gdList, nameB (g ++ ⟨#[107]⟩ : ByteArray).data.toList = true ∧ nameB (foldB (g ++ ⟨#[107]⟩ : ByteArray).data.toList) = true := by decide +kernel
theorem gd_K : ∀ g ∈ gdList, nameB (g ++ ⟨#[75]⟩ : ByteArray).data.toList = true ∧ nameB (foldB (g ++ ⟨#[75]⟩ : ByteArray).data.toList) = true := by decide +kernel
theorem gx_k {g : ByteArray} (h : g ∈ gdList) : Gx (g ++ ⟨#[107]⟩) := ⟨(gd_k g h).1, nameB_size (gd_k g h).1, (gd_k g h).2⟩
theorem gx_K {g : ByteArray} (h : g ∈ gdList) : Gx (g ++ ⟨#[75]⟩) := ⟨(gd_K g h).1, nameB_size (gd_K g h).1, (gd_K g h).2⟩
/-- The string of LabelMatches. -/
def gdS (g : ByteArray) : ByteArray := (⟨#[120]⟩ : ByteArray) ++ g ++ ⟨#[121]⟩
theorem gd_match : ∀ g ∈ gdList, (gdS g).size ≤ 24 ∧ matchB (gdS g).data.toList (gdS g).data.toList = true ∧ matchB [42] (gdS g).data.toList = true ∧ matchB [120, 42] (gdS g).data.toList = true ∧ matchB [42, 89] (gdS g).data.toList = true ∧
    matchB [88, 42, 121] (gdS g).data.toList = true ∧ matchB [121, 42] (gdS g).data.toList = false ∧ matchB (gdS g ++ ⟨#[121]⟩ : ByteArray).data.toList (gdS g).data.toList = false ∧ matchB (gdS g ++ ⟨#[42]⟩ : ByteArray).data.toList (gdS g).data.toList = true := by decide +kernel
theorem awake_fold : foldS ⟨#[195, 132, 66, 45, 49]⟩ = ⟨#[195, 164, 98, 45, 49]⟩ := by decide +kernel
theorem awake_err : foldE ⟨#[195, 132, 66, 45, 49]⟩ = 0 := by decide +kernel
theorem awake_runes : runesZ ⟨#[195, 164, 98, 45, 49]⟩ = 4 := by decide +kernel
theorem awake_match : matchB [97, 42, 99, 42] [65, 66, 67] = true := by decide +kernel
theorem awake_miss : matchB [42, 98] [97, 98, 99] = false := by decide +kernel
section
variable {W w w' : World} {R : List SP} {b : Nat}
set_option maxHeartbeats 800000 in
theorem genGood_spec (N : Nat) (hN : (N : Int) ≤ 900000000000) (o : Own w (Ch W b N :: old W :: R)) :
    Calls Tryd.prog 16 #[.pointer (some ⟨b, 0, none⟩)] w fun e w' => ∃ s : ByteArray, s ∈ gdList ∧ e = .returned (.string s) ∧ Own w' (Ch W b (N + 1) :: old W :: R) ∧ Calm w w' := by
  have o1 : Own (w.alloc (.cells (gdList.map Value.string).toArray 9)) (cel w.heap.size 9 (gdList.map Value.string) :: Ch W b N :: old W :: R) := o.alloc _
  have o2 := (o1.up 2).up 2
  go_enter Tryd.func16, Tryd.ntmps16
  go_wp2_with fail
  refine (next_spec W b N 8 _ _ (by omega) (by omega) (by omega) o2).mono ?_
  rintro e2 w2 ⟨x, hx0, hx1, rfl, o3, k3⟩
  obtain ⟨j, rfl⟩ : ∃ j : Nat, x = (j : Int) := ⟨x.toNat, by omega⟩
  have hj : j < gdList.length := by show j < 8; omega
  have c := Own.cell (v := .string gdList[j]) (o3.up 2) j (by rw [List.getElem?_map, List.getElem?_eq_getElem hj]; rfl)
  have hr : gdList[j] ∈ gdList := List.getElem_mem hj
  generalize gdList[j] = y at *
  go_wp2
  go_ret
  exact ⟨y, hr, rfl, (o3.up 2).drop, ⟨k3.os, k3.tape, k3.output⟩⟩
set_option maxHeartbeats 1600000 in
theorem awake7_spec (hT : TabsW W) (hm : MaxW W) (o : Own w (old W :: R)) : Calls Tryd.prog 12 #[] w (Ret (.bool true) (old W :: R) w) := by
  have h1 := labFold_spec ⟨#[195, 132, 66, 45, 49]⟩ (by decide) hT o
  have h2 := Lib.hid fun (w1 : World) (o1 : Own w1 (old W :: R)) => labRunes_spec ⟨#[195, 164, 98, 45, 49]⟩ (by decide) o1
  have h3 := Lib.hid fun (w1 : World) (o1 : Own w1 (old W :: R)) => labMatch_spec ⟨#[97, 42, 99, 42]⟩ ⟨#[65, 66, 67]⟩ (by decide) (by decide) hT hm o1
  have h4 := Lib.hid fun (w1 : World) (o1 : Own w1 (old W :: R)) => labMatch_spec ⟨#[42, 98]⟩ ⟨#[97, 98, 99]⟩ (by decide) (by decide) hT hm o1
  rw [awake_fold, awake_err] at h1
  rw [awake_runes] at h2
  have e3 : matchB (⟨#[97, 42, 99, 42]⟩ : ByteArray).data.toList (⟨#[65, 66, 67]⟩ : ByteArray).data.toList = true := awake_match
  have e4 : matchB (⟨#[42, 98]⟩ : ByteArray).data.toList (⟨#[97, 98, 99]⟩ : ByteArray).data.toList = false := awake_miss
  rw [e3] at h3
  rw [e4] at h4
  clear e3 e4
  go_enter Tryd.func12, Tryd.ntmps12
  go_wp2_with fail
  refine h1.mono ?_
  rintro e1 w1 ⟨rfl, o1, k1⟩
  clear h1
  go_wp2_with fail
  refine (h2.out w1 o1).mono ?_
  rintro e2 w2 ⟨rfl, o2, k2⟩
  go_wp2_with fail
  refine (h3.out w2 o2).mono ?_
  rintro e3 w3 ⟨rfl, o3, k3⟩
  go_wp2_with fail
  refine (h4.out w3 o3).mono ?_
  rintro e4 w4 ⟨rfl, o4, k4⟩
  go_wp2
  go_ret
  exact ⟨by simp, o4, k1.trans (k2.trans (k3.trans k4))⟩
end
end Go.Proofs.YtapingmjlpmmmaaDoor
