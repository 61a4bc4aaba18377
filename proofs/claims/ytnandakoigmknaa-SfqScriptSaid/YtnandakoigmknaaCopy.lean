/- maps.Clone at int keys, and the copy of an order of comp. -/
import Derived.Test.YtnandakoigmknaaCompB
import Derived.Test.YtnandakoigmknaaRe
import Derived.Shelf.SlMaps.Clone
import Derived.Deep.RegionHeld3
namespace Go.Proofs.Ytnandakoigmknaa
open Go.RowKit
open SP
section
variable {α : Type} {f : α → Value} {W w w' : World} {R : List SP} {b mb : Nat} {m : List (Int × α)} {reb tm : Int} {el tg : List (Int × Int)}

def ClonePost (f : α → Value) (mb : Nat) (m : List (Int × α)) (R : List SP) (w : World) (e : Ending) (w' : World) : Prop :=
  e = .returned (.map (some w.heap.size)) ∧ Own w' (mpI f w.heap.size m :: mpI f mb m :: R) ∧ Calm w w'

set_option maxHeartbeats 1600000 in
set_option maxRecDepth 100000 in
theorem cloneII_spec (o : Own w (mpI f mb m :: R)) : Calls Try.prog 51 #[.map (some mb)] w (ClonePost f mb m R w) := by
  obtain ⟨es, clock, h1, h2, h3, o1⟩ := Own.mpI.1 o
  have hb := o1.blk
  have hq := fun w => run_eql_map_nil_sl (P := Try.prog) w 80 _ _ (some mb) Try.underlying80
  have hfin : Own (w.alloc (.map es clock)) (mpI f w.heap.size m :: mpI f mb m :: R) := Own.mpI.2 ⟨es, clock, h1, h2, h3, o.alloc _⟩
  go_enter Try.func51, Try.ntmps51
  go_wp2
  rw [run_callFunc_extern Try.func72 (by kernel_rfl) (by kernel_rfl) (by kernel_rfl) (e := Extern.MapsClone.clone) (by kernel_rfl), run_maps_clone_sl w _ hb]
  simp only [Result.andThen]
  rw [Oper.upon_value]
  go_wp2
  rw [run_typeAssert_map_sl _ 80 _ _ _ _ Try.underlying80]
  simp only [Result.andThen]
  rw [Oper.upon_value]
  go_wp2
  go_ret
  exact ⟨rfl, hfin, ⟨rfl, rfl, rfl⟩⟩

set_option maxHeartbeats 1600000 in
set_option maxRecDepth 100000 in
theorem cloneIL_spec (o : Own w (mpI f mb m :: R)) : Calls Try.prog 52 #[.map (some mb)] w (ClonePost f mb m R w) := by
  obtain ⟨es, clock, h1, h2, h3, o1⟩ := Own.mpI.1 o
  have hb := o1.blk
  have hq := fun w => run_eql_map_nil_sl (P := Try.prog) w 81 _ _ (some mb) Try.underlying81
  have hfin : Own (w.alloc (.map es clock)) (mpI f w.heap.size m :: mpI f mb m :: R) := Own.mpI.2 ⟨es, clock, h1, h2, h3, o.alloc _⟩
  go_enter Try.func52, Try.ntmps52
  go_wp2
  rw [run_callFunc_extern Try.func72 (by kernel_rfl) (by kernel_rfl) (by kernel_rfl) (e := Extern.MapsClone.clone) (by kernel_rfl), run_maps_clone_sl w _ hb]
  simp only [Result.andThen]
  rw [Oper.upon_value]
  go_wp2
  rw [run_typeAssert_map_sl _ 81 _ _ _ _ Try.underlying81]
  simp only [Result.andThen]
  rw [Oper.upon_value]
  go_wp2
  go_ret
  exact ⟨rfl, hfin, ⟨rfl, rfl, rfl⟩⟩

def CopyPost (b : Nat) (reb tm : Int) (el tg : List (Int × Int)) (R : List SP) (w : World) (e : Ending) (w' : World) : Prop :=
  ∃ p, Ret (.pointer (some ⟨p, 0, none⟩)) (OrderR p reb el tg tm :: OrderR b reb el tg tm :: R) w e w'

set_option maxHeartbeats 3200000 in
set_option maxRecDepth 100000 in
theorem compCopy_spec (o : Own w (OrderR b reb el tg tm :: R)) : Calls Try.prog 26 #[.pointer (some ⟨b, 0, none⟩)] w (CopyPost b reb tm el tg R w) := by
  obtain ⟨eb, tb, o1⟩ := OrderR.iff.1 o
  have c0 := o1.cell 0
  have c1 := o1.cell 1
  have c2 := o1.cell 2
  have c3 := o1.cell 3
  have hlt := o1.celLt
  have oA := o1.alloc (.cells #[.int .i64 reb, .map (some eb), .map (some tb), .int .i64 tm] 83)
  have oAd : Own (w.alloc (.cells #[.int .i64 reb, .map (some eb), .map (some tb), .int .i64 tm] 83)).drew (mpI (Value.int .i64) eb el :: cel w.heap.size 83 [.int .i64 reb, .map (some eb), .map (some tb), .int .i64 tm] :: cel b 83 [.int .i64 reb, .map (some eb), .map (some tb), .int .i64 tm] :: mpI (Value.int .i64) tb tg :: R) := oA.drew.re [2, 0, 1, 3]
  have hsz : (w.alloc (.cells #[.int .i64 reb, .map (some eb), .map (some tb), .int .i64 tm] 83)).drew.heap.size = w.heap.size + 1 := by simp
  have HSZ := Lib.hid hsz
  clear hsz
  have q0 := (oA.up 1).cell 1
  have q1 := (oA.up 1).cell 2
  go_enter Try.func26, Try.ntmps26
  go_wp2
  go_region_held3 (fun w' => w'.cell? ⟨b, 1, none⟩ = some (.map (some eb)) ∧ w'.cell? ⟨b, 2, none⟩ = some (.map (some tb))) (go_keep) (first
    | (go_at_call 51; (with_reducible refine (cloneII_spec oAd).mono ?_); rintro e2 w2 ⟨rfl, o2, k2⟩; rw [HSZ.out] at o2; have x1 := (o2.up 3).cell 1; have x2 := (o2.up 3).cell 2; have o2b := o2.re [4, 0, 1, 2, 3])
    | (go_at_call 52; (with_reducible refine (cloneIL_spec o2b).mono ?_); rintro e3 w3 ⟨rfl, o3, k3⟩; have y1 := (o3.up 5).cell 1; have y2 := (o3.up 5).cell 2; have z1 := (o3.up 4).cell 1; have z2 := (o3.up 4).cell 2; have zf := (o3.up 4).frozen; have zl := (o3.up 4).celLt; have oS := (o3.up 4).setCell 1 (.map (some (w.heap.size + 1))); have s1 := (oS.up 5).cell 1; have s2 := (oS.up 5).cell 2; have s3 := oS.cell 2; have sf := oS.frozen; have sl := oS.celLt; have oS2 := oS.setCell 2 (.map (some w2.heap.size)); have t1 := (oS2.up 5).cell 1; have t2 := (oS2.up 5).cell 2))
  go_wp2
  go_ret
  have K := Calm.trans k2 k3
  refine ⟨w.heap.size, rfl, ?_, ⟨K.os, K.tape, K.output⟩⟩
  have oX := oS2.re [5, 4, 2, 0, 3, 1]
  have oY : Own _ (OrderR b reb el tg tm :: cel w.heap.size 83 [.int .i64 reb, .map (some (w.heap.size + 1)), .map (some w2.heap.size), .int .i64 tm] :: mpI (Value.int .i64) (w.heap.size + 1) el :: mpI (Value.int .i64) w2.heap.size tg :: R) := OrderR.iff.2 ⟨eb, tb, oX⟩
  exact OrderR.iff.2 ⟨_, _, oY.re [1, 2, 3, 0]⟩
end
end Go.Proofs.Ytnandakoigmknaa
