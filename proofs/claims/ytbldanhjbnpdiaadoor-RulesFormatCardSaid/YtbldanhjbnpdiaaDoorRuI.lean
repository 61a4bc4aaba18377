/- Rules: the reference's ParseRule, some of its ways (printed by genparse2.py). -/
import Derived.Test.YtbldanhjbnpdiaaDoorRuH
import Derived.Test.YtbldanhjbnpdiaaDoorRuH1
import Derived.Test.YtbldanhjbnpdiaaDoorRuH2
namespace Go.Proofs.YtbldanhjbnpdiaaDoor
open Go.RowKit
open Go.Shelf
open SP
section
variable {W w w' : World} {R : List SP}
theorem refParse_spec (s : ByteArray) (hs : s.size ≤ 1000000) (o : Own w R) :
    Calls Tryd.prog 18 #[.string s] w (Ret (prV (parseR s.data.toList)) R w) := by
  by_cases h4 : (spl 32 s.data.toList).length = 4
  rotate_left
  · exact refParse_short s hs o h4
  obtain ⟨a, b, c, d, hL⟩ := four h4
  by_cases h0 : a = []
  · exact refParse_a s hs o a b c d hL h0
  by_cases h1 : d = []
  · exact refParse_d s hs o a b c d hL h0 h1
  by_cases hf : d.head? = some 62
  rotate_left
  · exact refParse_x s hs o a b c d hL h0 h1 hf
  by_cases ha : a = [42] <;> by_cases hb : b = [42]
  · exact refParse_yy s hs o a b c d hL h0 hf ha hb
  · exact refParse_yn s hs o a b c d hL h0 hf ha hb
  · exact refParse_ny s hs o a b c d hL h0 hf ha hb
  · exact refParse_nn s hs o a b c d hL h0 hf ha hb
end
end Go.Proofs.YtbldanhjbnpdiaaDoor
