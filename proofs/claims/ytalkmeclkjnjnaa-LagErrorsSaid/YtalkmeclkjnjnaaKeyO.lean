/- The keys of a list of pairs, ascending. -/
import Derived.Lib.SlKeysI
import Derived.Test.YtalkmeclkjnjnaaCom
namespace Go.Proofs.Ytalkmeclkjnjnaa
open Go.RowKit
/-- The keys of a list of pairs, ascending. -/
def sortK {α : Type} (m : List (Int × α)) : List Int := (m.map (·.1)).mergeSort leI

def KeyOk {α : Type} (m : List (Int × α)) : Prop := Uniq m ∧ ∀ x ∈ m, -9223372036854775808 ≤ x.1 ∧ x.1 ≤ 9223372036854775807

end Go.Proofs.Ytalkmeclkjnjnaa
