/- The generator of choices: Weight. -/
import Derived.Test.YtlccalkikjfimaaGreatDoorGen
import Derived.Test.YtlccalkikjfimaaGreatDoorRe
namespace Go.Proofs.YtlccalkikjfimaaGreatDoor
open Go.RowKit
open SP
section
variable {W w w' : World} {R : List SP} {b : Nat}
def wtList : List Int := [1, 2, 1, 3, 4, 16, 7, 1, 5]
theorem Ch.upTo {N M : Nat} (h : N ≤ M) (o : Own w (Ch W b N :: R)) : Own w (Ch W b M :: R) := by
  obtain ⟨a, len, cap, zs, at_, h1, h2, h3, o1⟩ := Ch.open o
  exact Ch.shut h1 h2 (by omega) o1
end
end Go.Proofs.YtlccalkikjfimaaGreatDoor
