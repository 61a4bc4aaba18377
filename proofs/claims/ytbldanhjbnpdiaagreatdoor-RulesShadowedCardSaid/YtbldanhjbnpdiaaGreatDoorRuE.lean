/- Rules: the library's Split and CutPrefix; Parse of both sides. -/
import Derived.Test.YtbldanhjbnpdiaaGreatDoorRuD
import Derived.Laws.ResultCell
namespace Go.Proofs.YtbldanhjbnpdiaaGreatDoor
open Go.RowKit
open Go.Shelf
open SP
section
variable {W w w' : World} {R : List SP}
def Words (L : List (List UInt8)) (R : List SP) (w : World) (e : Ending) (w' : World) : Prop :=
  ∃ a c, e = .returned (.slice a L.length c) ∧ Own w' (slc 9 1 a L.length c (strs L) :: R) ∧ Calm w w'
theorem split_spec (s : ByteArray) (hs : s.size < 4294967281) (hm : MaxV W) (o : Own w (old W :: R)) (R2 : List SP) (o2 : Own w R2) : Calls Tryz.prog 35 #[.string s, .string ⟨#[32]⟩] w (Words (spl 32 s.data.toList) R2 w) := by
  obtain ⟨m, hm⟩ := hm
  have hC := Any.strings_Split Tryz.laysSp (by kernel_rfl) s ⟨#[32]⟩ m w hs (o.old_cell hm) (by decide)
  have hlen : Lib.countB s ⟨#[32]⟩ + 1 = (spl 32 s.data.toList).length := by rw [spl_length]; exact congrArg (· + 1) (Lib.count_one 32 s.data.toList)
  rw [sp_pieces, hlen] at hC
  have hcnt := List.count_le_length (a := (32 : UInt8)) (l := s.data.toList)
  have hl : s.data.toList.length = s.size := (Lib.size_eq s).symm
  have hn : (spl 32 s.data.toList).length ≤ 4294967282 := by rw [spl_length]; omega
  refine Calls.mono (show Calls Tryz.prog 35 #[.string s, .string ⟨#[32]⟩] w _ from hC) ?_
  rintro e w' ⟨rfl, rfl⟩
  refine ⟨_, _, rfl, Own.slc.2 (.inr ⟨w.heap.size, [], rfl, Nat.le_refl _, by unfold maxLen; omega, by rw [strs_length, Nat.mul_one], by simp, ?_⟩), ⟨rfl, rfl, rfl⟩⟩
  rw [List.append_nil]
  exact o2.alloc _
/-- The flow's word. -/
theorem prefix_spec (d : List UInt8) : Calls Tryz.prog 38 #[.string (mkB d), .string ⟨#[62]⟩] w (IsRet (.tuple #[.string (if d.head? = some 62 then mkB d.tail else mkB d), .bool (decide (d.head? = some 62))]) w) := by
  refine Calls.mono (show Calls Tryz.prog 38 #[.string (mkB d), .string ⟨#[62]⟩] w _ from Any.strings_CutPrefix Tryz.laysCP (mkB d) ⟨#[62]⟩ w) ?_
  rintro e w' ⟨rfl, rfl⟩
  refine ⟨?_, rfl⟩
  rw [mkB_data, show (⟨#[62]⟩ : ByteArray).data.toList = [62] from rfl]
  unfold Lib.trimPrefix Lib.hasPrefix
  cases d with
  | nil => rfl
  | cons b r =>
    by_cases hb : b = 62
    · subst hb; rfl
    · have h1 : ([62] : List UInt8).isPrefixOf (b :: r) = false := by simp [List.isPrefixOf, Ne.symm hb]
      have h2 : ¬ (b :: r).head? = some 62 := by simpa using hb
      rw [h1, decide_eq_false h2, if_neg h2]
      rfl
end
end Go.Proofs.YtbldanhjbnpdiaaGreatDoor
