/-
  No cell of these rows narrows 'for every input' (looked for: loops, veiled, ifaces, maps, wideKeys, modest, calm, conditions, laid).
  DERIVED. THE GIVEN ROWS OF THIS SEAT. 5 by the template 'for every input the law returns true; each argument reads behind the call as it read before'; 0 by the template 'total and deterministic' (their statements: YtkmlkpfabkhleaaTotals.lean).
  GIVEN WITH THE SEED: the statements are not yours to turn. If you find one false, say at which input.
  Laid BY PROGRAM, IN A SANDBOX (cutbox-rows.mjs): the forced cells as the released guide's own fill.sh prints them over the translation 6103008026f004e3… (all of the seat's roots in one cut). By AI agents, Wed Nov 11 2026. No macro, syntax, notation, axiom, sorry.
-/
import Derived.Test.YtkmlkpfabkhleaaChecked
import GoSem.Claim
import GoSem.ClaimJoined
import GoSem.ClaimMapViews
import Derived.JoinedTies
import Derived.KernelRfl
namespace Go.Proofs.Ytkmlkpfabkhleaa
/- THE CELL 'sum', in the pinned program and in every row, IS THE sha256 OF THE DUMP (.gsa) THAT YtkmlkpfabkhleaaProg.lean LOADS. Nothing in Lean hashes anything: it is a label: what it is worth is what the hold of that sum in a sandbox is worth. -/
noncomputable def Try.pinned : Pinned := { name := "ytkmlkpfabkhleaa", sum := "6103008026f004e323835cbdcb631849284afa516fa0c68a75091b306c02c283", checked := Try.checked }
namespace Rows
def none {H : Type} : Left H := { results := [], args := [] }

/-- 'airsharelaw24.CifqSteady': WHATEVER THE INPUT: true; the input reads as it did. -/
def cifqSteadySpec : ChangeSpec := { name := "cifqSteady", fn := fun _ => fun
  | [d] => { results := [.lit (.bool true)], args := [d] }
  | _ => none }
def cifqSteadyRow : OpenClaim := { program := "ytkmlkpfabkhleaa", sum := "6103008026f004e323835cbdcb631849284afa516fa0c68a75091b306c02c283", func := "airshare/airsharelaw24.CifqSteady", spec := "cifqSteady", inPlace := ["maps.clone"], unfollowed := true, recurses := true, apart := false }
def CifqSteadySaid : Prop := cifqSteadyRow.holds Try.pinned (OpenSpec.ofChange cifqSteadySpec)

/-- ITS FALSE NEIGHBOUR: 'it returns false'. Refute it at one input. -/
def cifqSteadyWrong : ChangeSpec := { name := "cifqSteady", fn := fun _ => fun
  | [d] => { results := [.lit (.bool false)], args := [d] }
  | _ => none }
def CifqSteadyWrongFalsely : Prop := cifqSteadyRow.holds Try.pinned (OpenSpec.ofChange cifqSteadyWrong)

/-- 'airsharelaw24.CifqDelay': WHATEVER THE INPUT: true; the input reads as it did. -/
def cifqDelaySpec : ChangeSpec := { name := "cifqDelay", fn := fun _ => fun
  | [d1, d2] => { results := [.lit (.bool true)], args := [d1, d2] }
  | _ => none }
def cifqDelayRow : OpenClaim := { program := "ytkmlkpfabkhleaa", sum := "6103008026f004e323835cbdcb631849284afa516fa0c68a75091b306c02c283", func := "airshare/airsharelaw24.CifqDelay", spec := "cifqDelay", inPlace := ["maps.clone"], unfollowed := true, recurses := true, apart := false }
def CifqDelaySaid : Prop := cifqDelayRow.holds Try.pinned (OpenSpec.ofChange cifqDelaySpec)

/-- ITS FALSE NEIGHBOUR: 'it returns false'. Refute it at one input. -/
def cifqDelayWrong : ChangeSpec := { name := "cifqDelay", fn := fun _ => fun
  | [d1, d2] => { results := [.lit (.bool false)], args := [d1, d2] }
  | _ => none }
def CifqDelayWrongFalsely : Prop := cifqDelayRow.holds Try.pinned (OpenSpec.ofChange cifqDelayWrong)

/-- 'airsharelaw24.CifqGood': WHATEVER THE INPUT: true; the input reads as it did. -/
def cifqGoodSpec : ChangeSpec := { name := "cifqGood", fn := fun _ => fun
  | [d] => { results := [.lit (.bool true)], args := [d] }
  | _ => none }
def cifqGoodRow : OpenClaim := { program := "ytkmlkpfabkhleaa", sum := "6103008026f004e323835cbdcb631849284afa516fa0c68a75091b306c02c283", func := "airshare/airsharelaw24.CifqGood", spec := "cifqGood", inPlace := ["maps.clone"], unfollowed := true, recurses := true, apart := false }
def CifqGoodSaid : Prop := cifqGoodRow.holds Try.pinned (OpenSpec.ofChange cifqGoodSpec)

/-- ITS FALSE NEIGHBOUR: 'it returns false'. Refute it at one input. -/
def cifqGoodWrong : ChangeSpec := { name := "cifqGood", fn := fun _ => fun
  | [d] => { results := [.lit (.bool false)], args := [d] }
  | _ => none }
def CifqGoodWrongFalsely : Prop := cifqGoodRow.holds Try.pinned (OpenSpec.ofChange cifqGoodWrong)

/-- 'airsharelaw25.IwfqStrict': WHATEVER THE INPUT: true; the input reads as it did. -/
def iwfqStrictSpec : ChangeSpec := { name := "iwfqStrict", fn := fun _ => fun
  | [d] => { results := [.lit (.bool true)], args := [d] }
  | _ => none }
def iwfqStrictRow : OpenClaim := { program := "ytkmlkpfabkhleaa", sum := "6103008026f004e323835cbdcb631849284afa516fa0c68a75091b306c02c283", func := "airshare/airsharelaw25.IwfqStrict", spec := "iwfqStrict", unfollowed := true, recurses := true, apart := false }
def IwfqStrictSaid : Prop := iwfqStrictRow.holds Try.pinned (OpenSpec.ofChange iwfqStrictSpec)

/-- ITS FALSE NEIGHBOUR: 'it returns false'. Refute it at one input. -/
def iwfqStrictWrong : ChangeSpec := { name := "iwfqStrict", fn := fun _ => fun
  | [d] => { results := [.lit (.bool false)], args := [d] }
  | _ => none }
def IwfqStrictWrongFalsely : Prop := iwfqStrictRow.holds Try.pinned (OpenSpec.ofChange iwfqStrictWrong)

/-- 'airsharelaw25.IwfqGood': WHATEVER THE INPUT: true; the input reads as it did. -/
def iwfqGoodSpec : ChangeSpec := { name := "iwfqGood", fn := fun _ => fun
  | [d] => { results := [.lit (.bool true)], args := [d] }
  | _ => none }
def iwfqGoodRow : OpenClaim := { program := "ytkmlkpfabkhleaa", sum := "6103008026f004e323835cbdcb631849284afa516fa0c68a75091b306c02c283", func := "airshare/airsharelaw25.IwfqGood", spec := "iwfqGood", unfollowed := true, recurses := true, apart := false }
def IwfqGoodSaid : Prop := iwfqGoodRow.holds Try.pinned (OpenSpec.ofChange iwfqGoodSpec)

/-- ITS FALSE NEIGHBOUR: 'it returns false'. Refute it at one input. -/
def iwfqGoodWrong : ChangeSpec := { name := "iwfqGood", fn := fun _ => fun
  | [d] => { results := [.lit (.bool false)], args := [d] }
  | _ => none }
def IwfqGoodWrongFalsely : Prop := iwfqGoodRow.holds Try.pinned (OpenSpec.ofChange iwfqGoodWrong)

/- THE SECOND FORM. 'bulk': how many values and letters a reading holds, each counted each time it is reached (what is shared counts as often as it is met; a slice's spare places count too). A statement '..UptoSaid' is the law's where the arguments, and the package variables that the reading takes, are together of bulk at most 1048576: NARROWER than '..Said'. Prove '..Said' where nothing that the law and all that it calls make is longer than what came in: it says more and counts as full. Else prove '..UptoSaid'. A law counts once. -/
mutual
def uptoBulk {H : Type} : DataW H → Nat
  | .lit (.string bytes) => bytes.length + 1
  | .lit _ => 1
  | .nil => 1
  | .ptr d => uptoBulk d + 1
  | .slice elems spare => uptoBulkAll elems + uptoBulkAll spare + 1
  | .agg parts => uptoBulkAll parts + 1
  | .iface _ d => uptoBulk d + 1
  | .map entries => uptoBulkEntries entries + 1
  | .held _ => 1
def uptoBulkAll {H : Type} : List (DataW H) → Nat
  | [] => 0
  | d :: r => uptoBulk d + uptoBulkAll r
def uptoBulkEntries {H : Type} : List (Lit × DataW H) → Nat
  | [] => 0
  | x :: r => uptoBulkEntry x + uptoBulkEntries r
def uptoBulkEntry {H : Type} : Lit × DataW H → Nat
  | (.string bytes, d) => bytes.length + uptoBulk d + 1
  | (_, d) => uptoBulk d + 1
 end
def uptoSmall : (H : Type) → List (DataW H) → Bool := fun _ ds => decide (uptoBulkAll ds ≤ 1048576)
def OpenSpec.upto (s : _root_.Go.ChangeSpec) : _root_.Go.OpenSpec := { _root_.Go.OpenSpec.ofChange s with cond := some uptoSmall }

/-- 'airsharelaw24.CifqSteady', WHERE WHAT IT READS IS OF BULK AT MOST 1048576: true; the input reads as it did. -/
def cifqSteadyUptoRow : OpenClaim := { program := "ytkmlkpfabkhleaa", sum := "6103008026f004e323835cbdcb631849284afa516fa0c68a75091b306c02c283", func := "airshare/airsharelaw24.CifqSteady", spec := "cifqSteady", inPlace := ["maps.clone"], unfollowed := true, recurses := true, apart := false, narrowed := true }
def CifqSteadyUptoSaid : Prop := cifqSteadyUptoRow.holds Try.pinned (OpenSpec.upto cifqSteadySpec)

/-- 'airsharelaw24.CifqDelay', WHERE WHAT IT READS IS OF BULK AT MOST 1048576: true; the input reads as it did. -/
def cifqDelayUptoRow : OpenClaim := { program := "ytkmlkpfabkhleaa", sum := "6103008026f004e323835cbdcb631849284afa516fa0c68a75091b306c02c283", func := "airshare/airsharelaw24.CifqDelay", spec := "cifqDelay", inPlace := ["maps.clone"], unfollowed := true, recurses := true, apart := false, narrowed := true }
def CifqDelayUptoSaid : Prop := cifqDelayUptoRow.holds Try.pinned (OpenSpec.upto cifqDelaySpec)

/-- 'airsharelaw24.CifqGood', WHERE WHAT IT READS IS OF BULK AT MOST 1048576: true; the input reads as it did. -/
def cifqGoodUptoRow : OpenClaim := { program := "ytkmlkpfabkhleaa", sum := "6103008026f004e323835cbdcb631849284afa516fa0c68a75091b306c02c283", func := "airshare/airsharelaw24.CifqGood", spec := "cifqGood", inPlace := ["maps.clone"], unfollowed := true, recurses := true, apart := false, narrowed := true }
def CifqGoodUptoSaid : Prop := cifqGoodUptoRow.holds Try.pinned (OpenSpec.upto cifqGoodSpec)

/-- 'airsharelaw25.IwfqStrict', WHERE WHAT IT READS IS OF BULK AT MOST 1048576: true; the input reads as it did. -/
def iwfqStrictUptoRow : OpenClaim := { program := "ytkmlkpfabkhleaa", sum := "6103008026f004e323835cbdcb631849284afa516fa0c68a75091b306c02c283", func := "airshare/airsharelaw25.IwfqStrict", spec := "iwfqStrict", unfollowed := true, recurses := true, apart := false, narrowed := true }
def IwfqStrictUptoSaid : Prop := iwfqStrictUptoRow.holds Try.pinned (OpenSpec.upto iwfqStrictSpec)

/-- 'airsharelaw25.IwfqGood', WHERE WHAT IT READS IS OF BULK AT MOST 1048576: true; the input reads as it did. -/
def iwfqGoodUptoRow : OpenClaim := { program := "ytkmlkpfabkhleaa", sum := "6103008026f004e323835cbdcb631849284afa516fa0c68a75091b306c02c283", func := "airshare/airsharelaw25.IwfqGood", spec := "iwfqGood", unfollowed := true, recurses := true, apart := false, narrowed := true }
def IwfqGoodUptoSaid : Prop := iwfqGoodUptoRow.holds Try.pinned (OpenSpec.upto iwfqGoodSpec)

end Rows
end Go.Proofs.Ytkmlkpfabkhleaa
