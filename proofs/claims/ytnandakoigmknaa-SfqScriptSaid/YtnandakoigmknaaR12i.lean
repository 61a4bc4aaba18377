/- The copies: the reference's, the program's; the program's SetWeight and Rebased. -/
import Derived.Test.YtnandakoigmknaaR12
import Derived.Test.YtnandakoigmknaaCopy
namespace Go.Proofs.Ytnandakoigmknaa
open Go.RowKit
open SP
section
variable {P : SP} {W w w' : World} {R : List SP} {b : Nat} {at_ now aw reb : Int} {L O : List Tg} {S : St}
set_option maxHeartbeats 1600000 in
set_option maxRecDepth 100000 in
theorem copyT_spec (o : Own w (RefT P b at_ L O now aw :: R)) :
    Calls Try.prog 43 #[.pointer (some ⟨b, 0, none⟩)] w fun e w' => ∃ p, Ret (.pointer (some ⟨p, 0, none⟩)) (RefT P p at_ L O now aw :: RefT P b at_ L O now aw :: R) w e w' := by
  obtain ⟨a, c, a2, c2, hP, o1⟩ := RefT.iff.1 o
  have c0 := o1.cell 0
  have c1 := o1.cell 1
  have c2' := o1.cell 2
  have c3 := o1.cell 3
  have c4 := o1.cell 4
  have hlt := o1.celLt
  have oN := o.alloc (.cells #[.int .i64 at_, .slice a L.length c, .slice a2 O.length c2, .int .i64 now, .int .i64 aw] 103)
  go_enter Try.func43, Try.ntmps43
  go_wp2
  go_ret
  exact ⟨w.heap.size, rfl, RefT.iff.2 ⟨a, c, a2, c2, hP, oN⟩, ⟨rfl, rfl, rfl⟩⟩
theorem sfqRebased_spec (o : Own w (SfqR b reb S :: R)) : Calls Try.prog 66 #[.pointer (some ⟨b, 0, none⟩)] w (IsRet (.int .i64 S.aw) w) := by
  obtain ⟨ab, rb, m, rem, hm, hold, hur, hok, o1⟩ := SfqR.iff.1 o
  have c4 := o1.cell 4
  clear hold
  go_enter Try.func66, Try.ntmps66
  go_wp2
  go_ret
  exact ⟨rfl, rfl⟩
end
section
variable {f : Tg → Value} {w w' : World} {R : List SP} {mb : Nat} {m : List (Int × Tg)}
set_option maxHeartbeats 1600000 in
set_option maxRecDepth 100000 in
theorem cloneT_spec (o : Own w (mpI f mb m :: R)) : Calls Try.prog 67 #[.map (some mb)] w (ClonePost f mb m R w) := by
  obtain ⟨es, clock, h1, h2, h3, o1⟩ := Own.mpI.1 o
  have hb := o1.blk
  have hq := fun w => run_eql_map_nil_sl (P := Try.prog) w 91 _ _ (some mb) Try.underlying91
  have hfin : Own (w.alloc (.map es clock)) (mpI f w.heap.size m :: mpI f mb m :: R) := Own.mpI.2 ⟨es, clock, h1, h2, h3, o.alloc _⟩
  go_enter Try.func67, Try.ntmps67
  go_wp2
  rw [run_callFunc_extern Try.func72 (by kernel_rfl) (by kernel_rfl) (by kernel_rfl) (e := Extern.MapsClone.clone) (by kernel_rfl), run_maps_clone_sl w _ hb]
  simp only [Result.andThen]
  rw [Oper.upon_value]
  go_wp2
  rw [run_typeAssert_map_sl _ 91 _ _ _ _ Try.underlying91]
  simp only [Result.andThen]
  rw [Oper.upon_value]
  go_wp2
  go_ret
  exact ⟨rfl, hfin, ⟨rfl, rfl, rfl⟩⟩
end
end Go.Proofs.Ytnandakoigmknaa
