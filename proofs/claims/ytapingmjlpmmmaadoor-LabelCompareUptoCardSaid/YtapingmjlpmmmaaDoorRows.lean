/-
  NARROWER THAN 'FOR EVERY INPUT', by the rows' own cells (each row's printed sentence says how): LabelValid: laid · LabelRunes: laid · LabelMatch: laid · LabelMatches: laid · LabelCompare: laid · LabelOrder: laid.
  DERIVED. THE GIVEN ROWS OF THIS SEAT. 6 by the template 'for every input the law returns true; each argument reads behind the call as it read before'; 0 by the template 'total and deterministic' (their statements: YtapingmjlpmmmaaDoorTotals.lean).
  GIVEN WITH THE SEED: the statements are not yours to turn. If you find one false, say at which input.
  Laid BY PROGRAM, IN A SANDBOX (cutbox-rows.mjs): the forced cells as the released guide's own fill.sh prints them over the translation 3fe72c19df2f21c8… (all of the seat's roots in one cut). By AI agents, Wed Nov 11 2026. No macro, syntax, notation, axiom, sorry.
-/
import Derived.Test.YtapingmjlpmmmaaDoorChecked
import GoSem.PinnedTables
import GoSem.Claim
import GoSem.ClaimJoined
import GoSem.ClaimMapViews
import Derived.JoinedTies
import Derived.KernelRfl
namespace Go.Proofs.YtapingmjlpmmmaaDoor
/- THE CELL 'sum', in the pinned program and in every row, IS THE sha256 OF THE DUMP (.gsa) THAT YtapingmjlpmmmaaDoorProg.lean LOADS. Nothing in Lean hashes anything: it is a label: what it is worth is what the hold of that sum in a sandbox is worth. -/
noncomputable def Tryd.pinned : Pinned := { name := "ytapingmjlpmmmaadoor", sum := "3fe72c19df2f21c844342048b5151a0418c86887a6e85024b8864732056c6b22", checked := Tryd.checked }
namespace Rows
def none {H : Type} : Left H := { results := [], args := [] }

/- WHAT THE LISTED PACKAGE-LEVEL VARIABLES READ AS WHEN THE CALL BEGINS. Each datum BY PROGRAM (the guide's laid-datum.mjs) off the statement by which the dump's own 'gosem.cut.vars' lays the variable. In a bare row this is a premise. The card (YtapingmjlpmmmaaDoorCards.lean) ties it to the program's text. -/
def laid_unicode_utf8_acceptRanges {H : Type} : DataW H := .agg [.agg [.lit (.int .u8 128), .lit (.int .u8 191)], .agg [.lit (.int .u8 160), .lit (.int .u8 191)], .agg [.lit (.int .u8 128), .lit (.int .u8 159)], .agg [.lit (.int .u8 144), .lit (.int .u8 191)], .agg [.lit (.int .u8 128), .lit (.int .u8 143)], .agg [.lit (.int .u8 0), .lit (.int .u8 0)], .agg [.lit (.int .u8 0), .lit (.int .u8 0)], .agg [.lit (.int .u8 0), .lit (.int .u8 0)], .agg [.lit (.int .u8 0), .lit (.int .u8 0)], .agg [.lit (.int .u8 0), .lit (.int .u8 0)], .agg [.lit (.int .u8 0), .lit (.int .u8 0)], .agg [.lit (.int .u8 0), .lit (.int .u8 0)], .agg [.lit (.int .u8 0), .lit (.int .u8 0)], .agg [.lit (.int .u8 0), .lit (.int .u8 0)], .agg [.lit (.int .u8 0), .lit (.int .u8 0)], .agg [.lit (.int .u8 0), .lit (.int .u8 0)]]
/-- One of Go's own tables, pinned by name: the form's constant. -/
def laid_unicode_utf8_first : DataW Unit := Go.Pinned.utf8First

/-- 'airsharelaw7.LabelValid': WHATEVER THE INPUT: true; the input reads as it did. -/
def labelValidSpec : ChangeSpec := { name := "labelValid", fn := fun _ => fun
  | [d1, d2] => { results := [.lit (.bool true)], args := [d1, d2] }
  | _ => none }
def labelValidRow : OpenClaim := { program := "ytapingmjlpmmmaadoor", sum := "3fe72c19df2f21c844342048b5151a0418c86887a6e85024b8864732056c6b22", func := "airshare/airsharelaw7.LabelValid", spec := "labelValid", inPlace := ["internal/abi.NoEscape", "internal/bytealg.MakeNoZero", "internal/bytealg.CountString", "internal/bytealg.IndexByteString", "internal/bytealg.IndexString"], unfollowed := true, recurses := true, named := ["unicode/utf8.first", "unicode/utf8.acceptRanges", "internal/bytealg.MaxLen"], apart := false, laid := [("unicode/utf8.acceptRanges", laid_unicode_utf8_acceptRanges), ("unicode/utf8.first", laid_unicode_utf8_first)] }
def LabelValidSaid : Prop := labelValidRow.holds Tryd.pinned (OpenSpec.ofChange labelValidSpec)

/-- ITS FALSE NEIGHBOUR: 'it returns false'. Refute it at one input. -/
def labelValidWrong : ChangeSpec := { name := "labelValid", fn := fun _ => fun
  | [d1, d2] => { results := [.lit (.bool false)], args := [d1, d2] }
  | _ => none }
def LabelValidWrongFalsely : Prop := labelValidRow.holds Tryd.pinned (OpenSpec.ofChange labelValidWrong)

/-- 'airsharelaw7.LabelRunes': WHATEVER THE INPUT: true; the input reads as it did. -/
def labelRunesSpec : ChangeSpec := { name := "labelRunes", fn := fun _ => fun
  | [d1, d2] => { results := [.lit (.bool true)], args := [d1, d2] }
  | _ => none }
def labelRunesRow : OpenClaim := { program := "ytapingmjlpmmmaadoor", sum := "3fe72c19df2f21c844342048b5151a0418c86887a6e85024b8864732056c6b22", func := "airshare/airsharelaw7.LabelRunes", spec := "labelRunes", inPlace := ["internal/abi.NoEscape", "internal/bytealg.MakeNoZero", "internal/bytealg.CountString", "internal/bytealg.IndexByteString", "internal/bytealg.IndexString"], unfollowed := true, recurses := true, named := ["unicode/utf8.first", "unicode/utf8.acceptRanges", "internal/bytealg.MaxLen"], apart := false, laid := [("unicode/utf8.acceptRanges", laid_unicode_utf8_acceptRanges), ("unicode/utf8.first", laid_unicode_utf8_first)] }
def LabelRunesSaid : Prop := labelRunesRow.holds Tryd.pinned (OpenSpec.ofChange labelRunesSpec)

/-- ITS FALSE NEIGHBOUR: 'it returns false'. Refute it at one input. -/
def labelRunesWrong : ChangeSpec := { name := "labelRunes", fn := fun _ => fun
  | [d1, d2] => { results := [.lit (.bool false)], args := [d1, d2] }
  | _ => none }
def LabelRunesWrongFalsely : Prop := labelRunesRow.holds Tryd.pinned (OpenSpec.ofChange labelRunesWrong)

/-- 'airsharelaw7.LabelMatch': WHATEVER THE INPUT: true; the input reads as it did. -/
def labelMatchSpec : ChangeSpec := { name := "labelMatch", fn := fun _ => fun
  | [d1, d2, d3] => { results := [.lit (.bool true)], args := [d1, d2, d3] }
  | _ => none }
def labelMatchRow : OpenClaim := { program := "ytapingmjlpmmmaadoor", sum := "3fe72c19df2f21c844342048b5151a0418c86887a6e85024b8864732056c6b22", func := "airshare/airsharelaw7.LabelMatch", spec := "labelMatch", inPlace := ["internal/bytealg.CountString", "internal/bytealg.IndexByteString", "internal/bytealg.IndexString", "internal/abi.NoEscape", "internal/bytealg.MakeNoZero"], unfollowed := true, recurses := true, named := ["internal/bytealg.MaxLen", "unicode/utf8.first", "unicode/utf8.acceptRanges"], apart := false, laid := [("unicode/utf8.acceptRanges", laid_unicode_utf8_acceptRanges), ("unicode/utf8.first", laid_unicode_utf8_first)] }
def LabelMatchSaid : Prop := labelMatchRow.holds Tryd.pinned (OpenSpec.ofChange labelMatchSpec)

/-- ITS FALSE NEIGHBOUR: 'it returns false'. Refute it at one input. -/
def labelMatchWrong : ChangeSpec := { name := "labelMatch", fn := fun _ => fun
  | [d1, d2, d3] => { results := [.lit (.bool false)], args := [d1, d2, d3] }
  | _ => none }
def LabelMatchWrongFalsely : Prop := labelMatchRow.holds Tryd.pinned (OpenSpec.ofChange labelMatchWrong)

/-- 'airsharelaw7.LabelMatches': WHATEVER THE INPUT: true; the input reads as it did. -/
def labelMatchesSpec : ChangeSpec := { name := "labelMatches", fn := fun _ => fun
  | [d] => { results := [.lit (.bool true)], args := [d] }
  | _ => none }
def labelMatchesRow : OpenClaim := { program := "ytapingmjlpmmmaadoor", sum := "3fe72c19df2f21c844342048b5151a0418c86887a6e85024b8864732056c6b22", func := "airshare/airsharelaw7.LabelMatches", spec := "labelMatches", inPlace := ["internal/bytealg.CountString", "internal/bytealg.IndexByteString", "internal/bytealg.IndexString", "internal/abi.NoEscape", "internal/bytealg.MakeNoZero"], unfollowed := true, recurses := true, named := ["internal/bytealg.MaxLen", "unicode/utf8.first", "unicode/utf8.acceptRanges"], apart := false, laid := [("unicode/utf8.acceptRanges", laid_unicode_utf8_acceptRanges), ("unicode/utf8.first", laid_unicode_utf8_first)] }
def LabelMatchesSaid : Prop := labelMatchesRow.holds Tryd.pinned (OpenSpec.ofChange labelMatchesSpec)

/-- ITS FALSE NEIGHBOUR: 'it returns false'. Refute it at one input. -/
def labelMatchesWrong : ChangeSpec := { name := "labelMatches", fn := fun _ => fun
  | [d] => { results := [.lit (.bool false)], args := [d] }
  | _ => none }
def LabelMatchesWrongFalsely : Prop := labelMatchesRow.holds Tryd.pinned (OpenSpec.ofChange labelMatchesWrong)

/-- 'airsharelaw7.LabelCompare': WHATEVER THE INPUT: true; the input reads as it did. -/
def labelCompareSpec : ChangeSpec := { name := "labelCompare", fn := fun _ => fun
  | [d1, d2, d3] => { results := [.lit (.bool true)], args := [d1, d2, d3] }
  | _ => none }
def labelCompareRow : OpenClaim := { program := "ytapingmjlpmmmaadoor", sum := "3fe72c19df2f21c844342048b5151a0418c86887a6e85024b8864732056c6b22", func := "airshare/airsharelaw7.LabelCompare", spec := "labelCompare", inPlace := ["internal/abi.NoEscape", "internal/bytealg.MakeNoZero", "internal/bytealg.CountString", "internal/bytealg.IndexByteString", "internal/bytealg.IndexString"], unfollowed := true, recurses := true, named := ["unicode/utf8.first", "unicode/utf8.acceptRanges", "internal/bytealg.MaxLen"], apart := false, laid := [("unicode/utf8.acceptRanges", laid_unicode_utf8_acceptRanges), ("unicode/utf8.first", laid_unicode_utf8_first)] }
def LabelCompareSaid : Prop := labelCompareRow.holds Tryd.pinned (OpenSpec.ofChange labelCompareSpec)

/-- ITS FALSE NEIGHBOUR: 'it returns false'. Refute it at one input. -/
def labelCompareWrong : ChangeSpec := { name := "labelCompare", fn := fun _ => fun
  | [d1, d2, d3] => { results := [.lit (.bool false)], args := [d1, d2, d3] }
  | _ => none }
def LabelCompareWrongFalsely : Prop := labelCompareRow.holds Tryd.pinned (OpenSpec.ofChange labelCompareWrong)

/-- 'airsharelaw7.LabelOrder': WHATEVER THE INPUT: true; the input reads as it did. -/
def labelOrderSpec : ChangeSpec := { name := "labelOrder", fn := fun _ => fun
  | [d] => { results := [.lit (.bool true)], args := [d] }
  | _ => none }
def labelOrderRow : OpenClaim := { program := "ytapingmjlpmmmaadoor", sum := "3fe72c19df2f21c844342048b5151a0418c86887a6e85024b8864732056c6b22", func := "airshare/airsharelaw7.LabelOrder", spec := "labelOrder", inPlace := ["internal/abi.NoEscape", "internal/bytealg.MakeNoZero", "internal/bytealg.CountString", "internal/bytealg.IndexByteString", "internal/bytealg.IndexString"], unfollowed := true, recurses := true, named := ["unicode/utf8.first", "unicode/utf8.acceptRanges", "internal/bytealg.MaxLen"], apart := false, laid := [("unicode/utf8.acceptRanges", laid_unicode_utf8_acceptRanges), ("unicode/utf8.first", laid_unicode_utf8_first)] }
def LabelOrderSaid : Prop := labelOrderRow.holds Tryd.pinned (OpenSpec.ofChange labelOrderSpec)

/-- ITS FALSE NEIGHBOUR: 'it returns false'. Refute it at one input. -/
def labelOrderWrong : ChangeSpec := { name := "labelOrder", fn := fun _ => fun
  | [d] => { results := [.lit (.bool false)], args := [d] }
  | _ => none }
def LabelOrderWrongFalsely : Prop := labelOrderRow.holds Tryd.pinned (OpenSpec.ofChange labelOrderWrong)

/- THE SECOND FORM. 'bulk': how many values and letters a reading holds, each counted each time it is reached (what is shared counts as often as it is met; a slice's spare places count too). A statement '..UptoSaid' is the law's where the arguments, and the package variables that the reading takes, are together of bulk at most 1048576: NARROWER than '..Said'. Prove '..Said' where nothing that the law and all that it calls make is longer than what came in: it says more and counts as full. Else prove '..UptoSaid'. A law counts once. -/
mutual
def uptoBulk {H : Type} : DataW H → Nat
  | .lit (.string bytes) => bytes.length + 1
  | .lit _ => 1
  | .nil => 1
  | .ptr d => uptoBulk d + 1
  | .slice elems spare => uptoBulkAll elems + uptoBulkAll spare + 1
  | .agg parts => uptoBulkAll parts + 1
  | .iface _ d => uptoBulk d + 1
  | .map entries => uptoBulkEntries entries + 1
  | .held _ => 1
def uptoBulkAll {H : Type} : List (DataW H) → Nat
  | [] => 0
  | d :: r => uptoBulk d + uptoBulkAll r
def uptoBulkEntries {H : Type} : List (Lit × DataW H) → Nat
  | [] => 0
  | x :: r => uptoBulkEntry x + uptoBulkEntries r
def uptoBulkEntry {H : Type} : Lit × DataW H → Nat
  | (.string bytes, d) => bytes.length + uptoBulk d + 1
  | (_, d) => uptoBulk d + 1
 end
def uptoSmall : (H : Type) → List (DataW H) → Bool := fun _ ds => decide (uptoBulkAll ds ≤ 1048576)
def OpenSpec.upto (s : _root_.Go.ChangeSpec) : _root_.Go.OpenSpec := { _root_.Go.OpenSpec.ofChange s with cond := some uptoSmall }

/-- 'airsharelaw7.LabelValid', WHERE WHAT IT READS IS OF BULK AT MOST 1048576: true; the input reads as it did. -/
def labelValidUptoRow : OpenClaim := { program := "ytapingmjlpmmmaadoor", sum := "3fe72c19df2f21c844342048b5151a0418c86887a6e85024b8864732056c6b22", func := "airshare/airsharelaw7.LabelValid", spec := "labelValid", inPlace := ["internal/abi.NoEscape", "internal/bytealg.MakeNoZero", "internal/bytealg.CountString", "internal/bytealg.IndexByteString", "internal/bytealg.IndexString"], unfollowed := true, recurses := true, named := ["unicode/utf8.first", "unicode/utf8.acceptRanges", "internal/bytealg.MaxLen"], apart := false, laid := [("unicode/utf8.acceptRanges", laid_unicode_utf8_acceptRanges), ("unicode/utf8.first", laid_unicode_utf8_first)], narrowed := true }
def LabelValidUptoSaid : Prop := labelValidUptoRow.holds Tryd.pinned (OpenSpec.upto labelValidSpec)

/-- 'airsharelaw7.LabelRunes', WHERE WHAT IT READS IS OF BULK AT MOST 1048576: true; the input reads as it did. -/
def labelRunesUptoRow : OpenClaim := { program := "ytapingmjlpmmmaadoor", sum := "3fe72c19df2f21c844342048b5151a0418c86887a6e85024b8864732056c6b22", func := "airshare/airsharelaw7.LabelRunes", spec := "labelRunes", inPlace := ["internal/abi.NoEscape", "internal/bytealg.MakeNoZero", "internal/bytealg.CountString", "internal/bytealg.IndexByteString", "internal/bytealg.IndexString"], unfollowed := true, recurses := true, named := ["unicode/utf8.first", "unicode/utf8.acceptRanges", "internal/bytealg.MaxLen"], apart := false, laid := [("unicode/utf8.acceptRanges", laid_unicode_utf8_acceptRanges), ("unicode/utf8.first", laid_unicode_utf8_first)], narrowed := true }
def LabelRunesUptoSaid : Prop := labelRunesUptoRow.holds Tryd.pinned (OpenSpec.upto labelRunesSpec)

/-- 'airsharelaw7.LabelMatch', WHERE WHAT IT READS IS OF BULK AT MOST 1048576: true; the input reads as it did. -/
def labelMatchUptoRow : OpenClaim := { program := "ytapingmjlpmmmaadoor", sum := "3fe72c19df2f21c844342048b5151a0418c86887a6e85024b8864732056c6b22", func := "airshare/airsharelaw7.LabelMatch", spec := "labelMatch", inPlace := ["internal/bytealg.CountString", "internal/bytealg.IndexByteString", "internal/bytealg.IndexString", "internal/abi.NoEscape", "internal/bytealg.MakeNoZero"], unfollowed := true, recurses := true, named := ["internal/bytealg.MaxLen", "unicode/utf8.first", "unicode/utf8.acceptRanges"], apart := false, laid := [("unicode/utf8.acceptRanges", laid_unicode_utf8_acceptRanges), ("unicode/utf8.first", laid_unicode_utf8_first)], narrowed := true }
def LabelMatchUptoSaid : Prop := labelMatchUptoRow.holds Tryd.pinned (OpenSpec.upto labelMatchSpec)

/-- 'airsharelaw7.LabelMatches', WHERE WHAT IT READS IS OF BULK AT MOST 1048576: true; the input reads as it did. -/
def labelMatchesUptoRow : OpenClaim := { program := "ytapingmjlpmmmaadoor", sum := "3fe72c19df2f21c844342048b5151a0418c86887a6e85024b8864732056c6b22", func := "airshare/airsharelaw7.LabelMatches", spec := "labelMatches", inPlace := ["internal/bytealg.CountString", "internal/bytealg.IndexByteString", "internal/bytealg.IndexString", "internal/abi.NoEscape", "internal/bytealg.MakeNoZero"], unfollowed := true, recurses := true, named := ["internal/bytealg.MaxLen", "unicode/utf8.first", "unicode/utf8.acceptRanges"], apart := false, laid := [("unicode/utf8.acceptRanges", laid_unicode_utf8_acceptRanges), ("unicode/utf8.first", laid_unicode_utf8_first)], narrowed := true }
def LabelMatchesUptoSaid : Prop := labelMatchesUptoRow.holds Tryd.pinned (OpenSpec.upto labelMatchesSpec)

/-- 'airsharelaw7.LabelCompare', WHERE WHAT IT READS IS OF BULK AT MOST 1048576: true; the input reads as it did. -/
def labelCompareUptoRow : OpenClaim := { program := "ytapingmjlpmmmaadoor", sum := "3fe72c19df2f21c844342048b5151a0418c86887a6e85024b8864732056c6b22", func := "airshare/airsharelaw7.LabelCompare", spec := "labelCompare", inPlace := ["internal/abi.NoEscape", "internal/bytealg.MakeNoZero", "internal/bytealg.CountString", "internal/bytealg.IndexByteString", "internal/bytealg.IndexString"], unfollowed := true, recurses := true, named := ["unicode/utf8.first", "unicode/utf8.acceptRanges", "internal/bytealg.MaxLen"], apart := false, laid := [("unicode/utf8.acceptRanges", laid_unicode_utf8_acceptRanges), ("unicode/utf8.first", laid_unicode_utf8_first)], narrowed := true }
def LabelCompareUptoSaid : Prop := labelCompareUptoRow.holds Tryd.pinned (OpenSpec.upto labelCompareSpec)

/-- 'airsharelaw7.LabelOrder', WHERE WHAT IT READS IS OF BULK AT MOST 1048576: true; the input reads as it did. -/
def labelOrderUptoRow : OpenClaim := { program := "ytapingmjlpmmmaadoor", sum := "3fe72c19df2f21c844342048b5151a0418c86887a6e85024b8864732056c6b22", func := "airshare/airsharelaw7.LabelOrder", spec := "labelOrder", inPlace := ["internal/abi.NoEscape", "internal/bytealg.MakeNoZero", "internal/bytealg.CountString", "internal/bytealg.IndexByteString", "internal/bytealg.IndexString"], unfollowed := true, recurses := true, named := ["unicode/utf8.first", "unicode/utf8.acceptRanges", "internal/bytealg.MaxLen"], apart := false, laid := [("unicode/utf8.acceptRanges", laid_unicode_utf8_acceptRanges), ("unicode/utf8.first", laid_unicode_utf8_first)], narrowed := true }
def LabelOrderUptoSaid : Prop := labelOrderUptoRow.holds Tryd.pinned (OpenSpec.upto labelOrderSpec)

end Rows
end Go.Proofs.YtapingmjlpmmmaaDoor
