/-
  NARROWER THAN 'FOR EVERY INPUT', by the rows' own cells (each row's printed sentence says how): FlowsAdmission: laid · FlowsNames: laid · FlowsFull: laid · FlowsScript: laid.
  DERIVED. THE GIVEN ROWS OF THIS SEAT. 4 by the template 'for every input the law returns true; each argument reads behind the call as it read before'; 0 by the template 'total and deterministic' (their statements: YtladamlfbdbdgaaDoorTotals.lean).
  GIVEN WITH THE SEED: the statements are not yours to turn. If you find one false, say at which input.
  Laid BY PROGRAM, IN A SANDBOX (cutbox-rows.mjs): the forced cells as the released guide's own fill.sh prints them over the translation 9b9769847d327c1e… (all of the seat's roots in one cut). By AI agents, Wed Nov 11 2026. No macro, syntax, notation, axiom, sorry.
-/
import Derived.Test.YtladamlfbdbdgaaDoorChecked
import GoSem.PinnedTables
import GoSem.Claim
import GoSem.ClaimJoined
import GoSem.ClaimMapViews
import Derived.JoinedTies
import Derived.KernelRfl
namespace Go.Proofs.YtladamlfbdbdgaaDoor
/- THE CELL 'sum', in the pinned program and in every row, IS THE sha256 OF THE DUMP (.gsa) THAT YtladamlfbdbdgaaDoorProg.lean LOADS. Nothing in Lean hashes anything: it is a label: what it is worth is what the hold of that sum in a sandbox is worth. -/
noncomputable def Tryd.pinned : Pinned := { name := "ytladamlfbdbdgaadoor", sum := "9b9769847d327c1ed63db7864a0c5e7ba9494fe0c6837476ea09ded0e65a3ad1", checked := Tryd.checked }
namespace Rows
def none {H : Type} : Left H := { results := [], args := [] }

/- WHAT THE LISTED PACKAGE-LEVEL VARIABLES READ AS WHEN THE CALL BEGINS. Each datum BY PROGRAM (the guide's laid-datum.mjs) off the statement by which the dump's own 'gosem.cut.vars' lays the variable. In a bare row this is a premise. The card (YtladamlfbdbdgaaDoorCards.lean) ties it to the program's text. -/
def laid_unicode_utf8_acceptRanges {H : Type} : DataW H := .agg [.agg [.lit (.int .u8 128), .lit (.int .u8 191)], .agg [.lit (.int .u8 160), .lit (.int .u8 191)], .agg [.lit (.int .u8 128), .lit (.int .u8 159)], .agg [.lit (.int .u8 144), .lit (.int .u8 191)], .agg [.lit (.int .u8 128), .lit (.int .u8 143)], .agg [.lit (.int .u8 0), .lit (.int .u8 0)], .agg [.lit (.int .u8 0), .lit (.int .u8 0)], .agg [.lit (.int .u8 0), .lit (.int .u8 0)], .agg [.lit (.int .u8 0), .lit (.int .u8 0)], .agg [.lit (.int .u8 0), .lit (.int .u8 0)], .agg [.lit (.int .u8 0), .lit (.int .u8 0)], .agg [.lit (.int .u8 0), .lit (.int .u8 0)], .agg [.lit (.int .u8 0), .lit (.int .u8 0)], .agg [.lit (.int .u8 0), .lit (.int .u8 0)], .agg [.lit (.int .u8 0), .lit (.int .u8 0)], .agg [.lit (.int .u8 0), .lit (.int .u8 0)]]
/-- One of Go's own tables, pinned by name: the form's constant. -/
def laid_unicode_utf8_first : DataW Unit := Go.Pinned.utf8First

/-- 'airsharelaw10.FlowsAdmission': WHATEVER THE INPUT: true; the input reads as it did. -/
def flowsAdmissionSpec : ChangeSpec := { name := "flowsAdmission", fn := fun _ => fun
  | [d] => { results := [.lit (.bool true)], args := [d] }
  | _ => none }
def flowsAdmissionRow : OpenClaim := { program := "ytladamlfbdbdgaadoor", sum := "9b9769847d327c1ed63db7864a0c5e7ba9494fe0c6837476ea09ded0e65a3ad1", func := "airshare/airsharelaw10.FlowsAdmission", spec := "flowsAdmission", inPlace := ["internal/abi.NoEscape", "internal/bytealg.MakeNoZero"], unfollowed := true, recurses := true, named := ["unicode/utf8.first", "unicode/utf8.acceptRanges"], apart := false, laid := [("unicode/utf8.acceptRanges", laid_unicode_utf8_acceptRanges), ("unicode/utf8.first", laid_unicode_utf8_first)] }
def FlowsAdmissionSaid : Prop := flowsAdmissionRow.holds Tryd.pinned (OpenSpec.ofChange flowsAdmissionSpec)

/-- ITS FALSE NEIGHBOUR: 'it returns false'. Refute it at one input. -/
def flowsAdmissionWrong : ChangeSpec := { name := "flowsAdmission", fn := fun _ => fun
  | [d] => { results := [.lit (.bool false)], args := [d] }
  | _ => none }
def FlowsAdmissionWrongFalsely : Prop := flowsAdmissionRow.holds Tryd.pinned (OpenSpec.ofChange flowsAdmissionWrong)

/-- 'airsharelaw10.FlowsNames': WHATEVER THE INPUT: true; the input reads as it did. -/
def flowsNamesSpec : ChangeSpec := { name := "flowsNames", fn := fun _ => fun
  | [d1, d2] => { results := [.lit (.bool true)], args := [d1, d2] }
  | _ => none }
def flowsNamesRow : OpenClaim := { program := "ytladamlfbdbdgaadoor", sum := "9b9769847d327c1ed63db7864a0c5e7ba9494fe0c6837476ea09ded0e65a3ad1", func := "airshare/airsharelaw10.FlowsNames", spec := "flowsNames", inPlace := ["internal/abi.NoEscape", "internal/bytealg.MakeNoZero"], unfollowed := true, recurses := true, named := ["unicode/utf8.first", "unicode/utf8.acceptRanges"], apart := false, laid := [("unicode/utf8.acceptRanges", laid_unicode_utf8_acceptRanges), ("unicode/utf8.first", laid_unicode_utf8_first)] }
def FlowsNamesSaid : Prop := flowsNamesRow.holds Tryd.pinned (OpenSpec.ofChange flowsNamesSpec)

/-- ITS FALSE NEIGHBOUR: 'it returns false'. Refute it at one input. -/
def flowsNamesWrong : ChangeSpec := { name := "flowsNames", fn := fun _ => fun
  | [d1, d2] => { results := [.lit (.bool false)], args := [d1, d2] }
  | _ => none }
def FlowsNamesWrongFalsely : Prop := flowsNamesRow.holds Tryd.pinned (OpenSpec.ofChange flowsNamesWrong)

/-- 'airsharelaw10.FlowsFull': WHATEVER THE INPUT: true; the input reads as it did. -/
def flowsFullSpec : ChangeSpec := { name := "flowsFull", fn := fun _ => fun
  | [d] => { results := [.lit (.bool true)], args := [d] }
  | _ => none }
def flowsFullRow : OpenClaim := { program := "ytladamlfbdbdgaadoor", sum := "9b9769847d327c1ed63db7864a0c5e7ba9494fe0c6837476ea09ded0e65a3ad1", func := "airshare/airsharelaw10.FlowsFull", spec := "flowsFull", inPlace := ["internal/abi.NoEscape", "internal/bytealg.MakeNoZero"], unfollowed := true, recurses := true, named := ["unicode/utf8.first", "unicode/utf8.acceptRanges"], apart := false, laid := [("unicode/utf8.acceptRanges", laid_unicode_utf8_acceptRanges), ("unicode/utf8.first", laid_unicode_utf8_first)] }
def FlowsFullSaid : Prop := flowsFullRow.holds Tryd.pinned (OpenSpec.ofChange flowsFullSpec)

/-- ITS FALSE NEIGHBOUR: 'it returns false'. Refute it at one input. -/
def flowsFullWrong : ChangeSpec := { name := "flowsFull", fn := fun _ => fun
  | [d] => { results := [.lit (.bool false)], args := [d] }
  | _ => none }
def FlowsFullWrongFalsely : Prop := flowsFullRow.holds Tryd.pinned (OpenSpec.ofChange flowsFullWrong)

/-- 'airsharelaw10.FlowsScript': WHATEVER THE INPUT: true; the input reads as it did. -/
def flowsScriptSpec : ChangeSpec := { name := "flowsScript", fn := fun _ => fun
  | [d1, d2, d3] => { results := [.lit (.bool true)], args := [d1, d2, d3] }
  | _ => none }
def flowsScriptRow : OpenClaim := { program := "ytladamlfbdbdgaadoor", sum := "9b9769847d327c1ed63db7864a0c5e7ba9494fe0c6837476ea09ded0e65a3ad1", func := "airshare/airsharelaw10.FlowsScript", spec := "flowsScript", inPlace := ["internal/abi.NoEscape", "internal/bytealg.MakeNoZero"], unfollowed := true, recurses := true, named := ["unicode/utf8.first", "unicode/utf8.acceptRanges"], apart := false, laid := [("unicode/utf8.acceptRanges", laid_unicode_utf8_acceptRanges), ("unicode/utf8.first", laid_unicode_utf8_first)] }
def FlowsScriptSaid : Prop := flowsScriptRow.holds Tryd.pinned (OpenSpec.ofChange flowsScriptSpec)

/-- ITS FALSE NEIGHBOUR: 'it returns false'. Refute it at one input. -/
def flowsScriptWrong : ChangeSpec := { name := "flowsScript", fn := fun _ => fun
  | [d1, d2, d3] => { results := [.lit (.bool false)], args := [d1, d2, d3] }
  | _ => none }
def FlowsScriptWrongFalsely : Prop := flowsScriptRow.holds Tryd.pinned (OpenSpec.ofChange flowsScriptWrong)

/- THE SECOND FORM. 'bulk': how many values and letters a reading holds, each counted each time it is reached (what is shared counts as often as it is met; a slice's spare places count too). A statement '..UptoSaid' is the law's where the arguments, and the package variables that the reading takes, are together of bulk at most 1048576: NARROWER than '..Said'. Prove '..Said' where nothing that the law and all that it calls make is longer than what came in: it says more and counts as full. Else prove '..UptoSaid'. A law counts once. -/
mutual
def uptoBulk {H : Type} : DataW H → Nat
  | .lit (.string bytes) => bytes.length + 1
  | .lit _ => 1
  | .nil => 1
  | .ptr d => uptoBulk d + 1
  | .slice elems spare => uptoBulkAll elems + uptoBulkAll spare + 1
  | .agg parts => uptoBulkAll parts + 1
  | .iface _ d => uptoBulk d + 1
  | .map entries => uptoBulkEntries entries + 1
  | .held _ => 1
def uptoBulkAll {H : Type} : List (DataW H) → Nat
  | [] => 0
  | d :: r => uptoBulk d + uptoBulkAll r
def uptoBulkEntries {H : Type} : List (Lit × DataW H) → Nat
  | [] => 0
  | x :: r => uptoBulkEntry x + uptoBulkEntries r
def uptoBulkEntry {H : Type} : Lit × DataW H → Nat
  | (.string bytes, d) => bytes.length + uptoBulk d + 1
  | (_, d) => uptoBulk d + 1
 end
def uptoSmall : (H : Type) → List (DataW H) → Bool := fun _ ds => decide (uptoBulkAll ds ≤ 1048576)
def OpenSpec.upto (s : _root_.Go.ChangeSpec) : _root_.Go.OpenSpec := { _root_.Go.OpenSpec.ofChange s with cond := some uptoSmall }

/-- 'airsharelaw10.FlowsAdmission', WHERE WHAT IT READS IS OF BULK AT MOST 1048576: true; the input reads as it did. -/
def flowsAdmissionUptoRow : OpenClaim := { program := "ytladamlfbdbdgaadoor", sum := "9b9769847d327c1ed63db7864a0c5e7ba9494fe0c6837476ea09ded0e65a3ad1", func := "airshare/airsharelaw10.FlowsAdmission", spec := "flowsAdmission", inPlace := ["internal/abi.NoEscape", "internal/bytealg.MakeNoZero"], unfollowed := true, recurses := true, named := ["unicode/utf8.first", "unicode/utf8.acceptRanges"], apart := false, laid := [("unicode/utf8.acceptRanges", laid_unicode_utf8_acceptRanges), ("unicode/utf8.first", laid_unicode_utf8_first)], narrowed := true }
def FlowsAdmissionUptoSaid : Prop := flowsAdmissionUptoRow.holds Tryd.pinned (OpenSpec.upto flowsAdmissionSpec)

/-- 'airsharelaw10.FlowsNames', WHERE WHAT IT READS IS OF BULK AT MOST 1048576: true; the input reads as it did. -/
def flowsNamesUptoRow : OpenClaim := { program := "ytladamlfbdbdgaadoor", sum := "9b9769847d327c1ed63db7864a0c5e7ba9494fe0c6837476ea09ded0e65a3ad1", func := "airshare/airsharelaw10.FlowsNames", spec := "flowsNames", inPlace := ["internal/abi.NoEscape", "internal/bytealg.MakeNoZero"], unfollowed := true, recurses := true, named := ["unicode/utf8.first", "unicode/utf8.acceptRanges"], apart := false, laid := [("unicode/utf8.acceptRanges", laid_unicode_utf8_acceptRanges), ("unicode/utf8.first", laid_unicode_utf8_first)], narrowed := true }
def FlowsNamesUptoSaid : Prop := flowsNamesUptoRow.holds Tryd.pinned (OpenSpec.upto flowsNamesSpec)

/-- 'airsharelaw10.FlowsFull', WHERE WHAT IT READS IS OF BULK AT MOST 1048576: true; the input reads as it did. -/
def flowsFullUptoRow : OpenClaim := { program := "ytladamlfbdbdgaadoor", sum := "9b9769847d327c1ed63db7864a0c5e7ba9494fe0c6837476ea09ded0e65a3ad1", func := "airshare/airsharelaw10.FlowsFull", spec := "flowsFull", inPlace := ["internal/abi.NoEscape", "internal/bytealg.MakeNoZero"], unfollowed := true, recurses := true, named := ["unicode/utf8.first", "unicode/utf8.acceptRanges"], apart := false, laid := [("unicode/utf8.acceptRanges", laid_unicode_utf8_acceptRanges), ("unicode/utf8.first", laid_unicode_utf8_first)], narrowed := true }
def FlowsFullUptoSaid : Prop := flowsFullUptoRow.holds Tryd.pinned (OpenSpec.upto flowsFullSpec)

/-- 'airsharelaw10.FlowsScript', WHERE WHAT IT READS IS OF BULK AT MOST 1048576: true; the input reads as it did. -/
def flowsScriptUptoRow : OpenClaim := { program := "ytladamlfbdbdgaadoor", sum := "9b9769847d327c1ed63db7864a0c5e7ba9494fe0c6837476ea09ded0e65a3ad1", func := "airshare/airsharelaw10.FlowsScript", spec := "flowsScript", inPlace := ["internal/abi.NoEscape", "internal/bytealg.MakeNoZero"], unfollowed := true, recurses := true, named := ["unicode/utf8.first", "unicode/utf8.acceptRanges"], apart := false, laid := [("unicode/utf8.acceptRanges", laid_unicode_utf8_acceptRanges), ("unicode/utf8.first", laid_unicode_utf8_first)], narrowed := true }
def FlowsScriptUptoSaid : Prop := flowsScriptUptoRow.holds Tryd.pinned (OpenSpec.upto flowsScriptSpec)

end Rows
end Go.Proofs.YtladamlfbdbdgaaDoor
