/- Rules: the program's Parse (printed by genparse.py). -/
import Derived.Test.YtbldanhjbnpdiaaGreatDoorRuF1
import Derived.Test.YtbldanhjbnpdiaaGreatDoorRuF2
import Derived.Test.YtbldanhjbnpdiaaGreatDoorRuF3
import Derived.Test.YtbldanhjbnpdiaaGreatDoorRuF4
namespace Go.Proofs.YtbldanhjbnpdiaaGreatDoor
open Go.RowKit
open Go.Shelf
open SP
section
variable {W w w' : World} {R : List SP}
set_option maxHeartbeats 25600000 in
set_option maxRecDepth 100000 in
theorem ruParse_spec (s : ByteArray) (hs : s.size ≤ 1000000) (hm : MaxV W) (o : Own w (old W :: R)) :
    Calls Tryz.prog 28 #[.string s] w (Ret (prV (parseR s.data.toList)) (old W :: R) w) := by
  by_cases h4 : (spl 32 s.data.toList).length = 4
  rotate_left
  · exact ruParse_short s hs hm o h4
  obtain ⟨a, b, c, d, hL⟩ := four h4
  by_cases h0 : a = []
  · exact ruParse_empty s hs hm o a b c d hL h0
  by_cases ha : a = [42] <;> by_cases hb : b = [42] <;> by_cases hf : d.head? = some 62
  · exact ruParse_yyy s hs hm o a b c d hL h0 ha hb hf
  · exact ruParse_yyn s hs hm o a b c d hL h0 ha hb hf
  · exact ruParse_yny s hs hm o a b c d hL h0 ha hb hf
  · exact ruParse_ynn s hs hm o a b c d hL h0 ha hb hf
  · exact ruParse_nyy s hs hm o a b c d hL h0 ha hb hf
  · exact ruParse_nyn s hs hm o a b c d hL h0 ha hb hf
  · exact ruParse_nny s hs hm o a b c d hL h0 ha hb hf
  · exact ruParse_nnn s hs hm o a b c d hL h0 ha hb hf
end
end Go.Proofs.YtbldanhjbnpdiaaGreatDoor
