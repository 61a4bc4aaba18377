/- slices.Sorted(maps.Keys(m)) at int keys, at maps of accounts. -/
import Derived.Test.YtalkmeclkjnjnaaKeysG
namespace Go.Proofs.Ytalkmeclkjnjnaa
open Go.RowKit
open Go.Shelf
open SP
section
variable {α : Type} {f : α → Value} {w w' : World} {R : List SP} {b : Nat} {m : List (Int × α)}

theorem keysAcc_spec (mb : Option Nat) (w : World) : Calls Try.prog 38 #[.map mb] w fun e w' => e = .returned (.func (.func 50) #[] #[.pointer (some ⟨w.heap.size, 0, none⟩)]) ∧ w' = w.alloc (.cells #[.map mb] 61) :=
  callsIn_wide.1 (AnyZI.keys_in Try.keys38 Fence.wide 5 trivial rfl mb w)

set_option maxHeartbeats 1000000 in
theorem sortedAcc_spec (kb : Nat) (hk : KeyOk m) (hn : m.length ≤ 1000000) (o : Own w (cel kb 61 [.map (some b)] :: mpI f b m :: R)) :
    Calls Try.prog 37 #[.func (.func 50) #[] #[.pointer (some ⟨kb, 0, none⟩)]] w fun e w' =>
      ∃ a cap, e = .returned (.slice a m.length cap) ∧ Own w' (slc 3 1 a m.length cap ((sortK m).map (Value.int .i64)) :: mpI f b m :: R) ∧ Calm w w' := by
  obtain ⟨D0, hown, hperm, hsize⟩ := mpI_ownsMap hk hn o.drop
  have hlt := o.celLt
  have hseq : SeqGives Fence.wide 2 Try.prog 50 #[.pointer (some ⟨kb, 0, none⟩)] encZ (fun ss => ss.Perm (intKeys D0)) (Maps.size D0) w :=
    AnyZI.keys_gives (ρ := Try.keys38_ren) { Try.keys38 with } Fence.wide _ trivial rfl (by omega) kb b m.length D0 _ hlt (o.cell 0) hown
  have cS := AnyZI.sorted_in Try.sorted Fence.wide 5 trivial trivial trivial trivial rfl (by omega) (Try.sortsIn _) (enters_of Try.func49 (by kernel_rfl) rfl) 50 #[.pointer (some ⟨kb, 0, none⟩)] trivial (enters_of Try.func50 (by kernel_rfl) rfl) _ _
    (by rw [hsize]; unfold maxLen; omega) (by rw [hsize]; omega) _ hseq
  refine (callsIn_wide.1 cS).mono ?_
  rintro e w' ⟨v, ss, rfl, hS, hrow, _, hb⟩
  have hsp := hS.trans hperm
  have hlen : ss.length = m.length := by rw [hsp.length_eq, List.length_map]
  rw [hlen, mergeSort_same hsp] at hrow
  obtain ⟨a, cap, rfl, o2⟩ := own_of_row o.drop hb hrow
  exact ⟨a, cap, rfl, o2, ⟨hb.os, hb.tape, hb.output⟩⟩
end
end Go.Proofs.Ytalkmeclkjnjnaa
