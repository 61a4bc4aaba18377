/- Rules: the reference's words. -/
import Derived.Test.YtbldanhjbnpdiaaGreatDoorRuB
namespace Go.Proofs.YtbldanhjbnpdiaaGreatDoor
open Go.RowKit
open Go.Shelf
open SP
section
variable {W w w' : World} {R : List SP}
def WdRel (s : ByteArray) (R : List SP) (w : World) (v3 v4 : Value) (wr : World) : Prop :=
  ∃ (i n c : Nat) (a : Option Addr), v4 = .int .i64 (i : Int) ∧ i ≤ s.size ∧ v3 = .slice a n c ∧ (spl 32 (s.data.toList.take i)).length = n ∧ Own wr (slc 9 1 a n c (strs (spl 32 (s.data.toList.take i))) :: R) ∧ Calm w wr
end
end Go.Proofs.YtbldanhjbnpdiaaGreatDoor
