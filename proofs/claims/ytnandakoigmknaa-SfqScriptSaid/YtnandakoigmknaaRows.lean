/-
  No cell of these rows narrows 'for every input' (looked for: loops, veiled, ifaces, maps, wideKeys, modest, calm, conditions, laid).
  DERIVED. THE GIVEN ROWS OF THIS SEAT. 9 by the template 'for every input the law returns true; each argument reads behind the call as it read before'; 0 by the template 'total and deterministic' (their statements: YtnandakoigmknaaTotals.lean).
  GIVEN WITH THE SEED: the statements are not yours to turn. If you find one false, say at which input.
  Laid BY PROGRAM, IN A SANDBOX (cutbox-rows.mjs): the forced cells as the released guide's own fill.sh prints them over the translation 047c35525b416f12… (all of the seat's roots in one cut). By AI agents, Wed Nov 11 2026. No macro, syntax, notation, axiom, sorry.
-/
import Derived.Test.YtnandakoigmknaaChecked
import GoSem.Claim
import GoSem.ClaimJoined
import GoSem.ClaimMapViews
import Derived.JoinedTies
import Derived.KernelRfl
namespace Go.Proofs.Ytnandakoigmknaa
/- THE CELL 'sum', in the pinned program and in every row, IS THE sha256 OF THE DUMP (.gsa) THAT YtnandakoigmknaaProg.lean LOADS. Nothing in Lean hashes anything: it is a label: what it is worth is what the hold of that sum in a sandbox is worth. -/
noncomputable def Try.pinned : Pinned := { name := "ytnandakoigmknaa", sum := "047c35525b416f12613920308f5a2c067f0b59a52c1d6ccc62c1875ac7a312bb", checked := Try.checked }
namespace Rows
def none {H : Type} : Left H := { results := [], args := [] }

/-- 'airsharelaw23.CompSpread': WHATEVER THE INPUT: true; the input reads as it did. -/
def compSpreadSpec : ChangeSpec := { name := "compSpread", fn := fun _ => fun
  | [d] => { results := [.lit (.bool true)], args := [d] }
  | _ => none }
def compSpreadRow : OpenClaim := { program := "ytnandakoigmknaa", sum := "047c35525b416f12613920308f5a2c067f0b59a52c1d6ccc62c1875ac7a312bb", func := "airshare/airsharelaw23.CompSpread", spec := "compSpread", unfollowed := true, recurses := true, apart := false }
def CompSpreadSaid : Prop := compSpreadRow.holds Try.pinned (OpenSpec.ofChange compSpreadSpec)

/-- ITS FALSE NEIGHBOUR: 'it returns false'. Refute it at one input. -/
def compSpreadWrong : ChangeSpec := { name := "compSpread", fn := fun _ => fun
  | [d] => { results := [.lit (.bool false)], args := [d] }
  | _ => none }
def CompSpreadWrongFalsely : Prop := compSpreadRow.holds Try.pinned (OpenSpec.ofChange compSpreadWrong)

/-- 'airsharelaw23.CompTurns': WHATEVER THE INPUT: true; the input reads as it did. -/
def compTurnsSpec : ChangeSpec := { name := "compTurns", fn := fun _ => fun
  | [d1, d2] => { results := [.lit (.bool true)], args := [d1, d2] }
  | _ => none }
def compTurnsRow : OpenClaim := { program := "ytnandakoigmknaa", sum := "047c35525b416f12613920308f5a2c067f0b59a52c1d6ccc62c1875ac7a312bb", func := "airshare/airsharelaw23.CompTurns", spec := "compTurns", unfollowed := true, recurses := true, apart := false }
def CompTurnsSaid : Prop := compTurnsRow.holds Try.pinned (OpenSpec.ofChange compTurnsSpec)

/-- ITS FALSE NEIGHBOUR: 'it returns false'. Refute it at one input. -/
def compTurnsWrong : ChangeSpec := { name := "compTurns", fn := fun _ => fun
  | [d1, d2] => { results := [.lit (.bool false)], args := [d1, d2] }
  | _ => none }
def CompTurnsWrongFalsely : Prop := compTurnsRow.holds Try.pinned (OpenSpec.ofChange compTurnsWrong)

/-- 'airsharelaw23.CompRebase': WHATEVER THE INPUT: true; the input reads as it did. -/
def compRebaseSpec : ChangeSpec := { name := "compRebase", fn := fun _ => fun
  | [d] => { results := [.lit (.bool true)], args := [d] }
  | _ => none }
def compRebaseRow : OpenClaim := { program := "ytnandakoigmknaa", sum := "047c35525b416f12613920308f5a2c067f0b59a52c1d6ccc62c1875ac7a312bb", func := "airshare/airsharelaw23.CompRebase", spec := "compRebase", unfollowed := true, recurses := true, apart := false }
def CompRebaseSaid : Prop := compRebaseRow.holds Try.pinned (OpenSpec.ofChange compRebaseSpec)

/-- ITS FALSE NEIGHBOUR: 'it returns false'. Refute it at one input. -/
def compRebaseWrong : ChangeSpec := { name := "compRebase", fn := fun _ => fun
  | [d] => { results := [.lit (.bool false)], args := [d] }
  | _ => none }
def CompRebaseWrongFalsely : Prop := compRebaseRow.holds Try.pinned (OpenSpec.ofChange compRebaseWrong)

/-- 'airsharelaw23.CompScript': WHATEVER THE INPUT: true; the input reads as it did. -/
def compScriptSpec : ChangeSpec := { name := "compScript", fn := fun _ => fun
  | [d1, d2, d3] => { results := [.lit (.bool true)], args := [d1, d2, d3] }
  | _ => none }
def compScriptRow : OpenClaim := { program := "ytnandakoigmknaa", sum := "047c35525b416f12613920308f5a2c067f0b59a52c1d6ccc62c1875ac7a312bb", func := "airshare/airsharelaw23.CompScript", spec := "compScript", inPlace := ["maps.clone"], unfollowed := true, recurses := true, apart := false }
def CompScriptSaid : Prop := compScriptRow.holds Try.pinned (OpenSpec.ofChange compScriptSpec)

/-- ITS FALSE NEIGHBOUR: 'it returns false'. Refute it at one input. -/
def compScriptWrong : ChangeSpec := { name := "compScript", fn := fun _ => fun
  | [d1, d2, d3] => { results := [.lit (.bool false)], args := [d1, d2, d3] }
  | _ => none }
def CompScriptWrongFalsely : Prop := compScriptRow.holds Try.pinned (OpenSpec.ofChange compScriptWrong)

/-- 'airsharelaw13.SfqRange': WHATEVER THE INPUT: true; the input reads as it did. -/
def sfqRangeSpec : ChangeSpec := { name := "sfqRange", fn := fun _ => fun
  | [d1, d2] => { results := [.lit (.bool true)], args := [d1, d2] }
  | _ => none }
def sfqRangeRow : OpenClaim := { program := "ytnandakoigmknaa", sum := "047c35525b416f12613920308f5a2c067f0b59a52c1d6ccc62c1875ac7a312bb", func := "airshare/airsharelaw13.SfqRange", spec := "sfqRange", unfollowed := true, recurses := true, apart := false }
def SfqRangeSaid : Prop := sfqRangeRow.holds Try.pinned (OpenSpec.ofChange sfqRangeSpec)

/-- ITS FALSE NEIGHBOUR: 'it returns false'. Refute it at one input. -/
def sfqRangeWrong : ChangeSpec := { name := "sfqRange", fn := fun _ => fun
  | [d1, d2] => { results := [.lit (.bool false)], args := [d1, d2] }
  | _ => none }
def SfqRangeWrongFalsely : Prop := sfqRangeRow.holds Try.pinned (OpenSpec.ofChange sfqRangeWrong)

/-- 'airsharelaw13.SfqFair': WHATEVER THE INPUT: true; the input reads as it did. -/
def sfqFairSpec : ChangeSpec := { name := "sfqFair", fn := fun _ => fun
  | [d] => { results := [.lit (.bool true)], args := [d] }
  | _ => none }
def sfqFairRow : OpenClaim := { program := "ytnandakoigmknaa", sum := "047c35525b416f12613920308f5a2c067f0b59a52c1d6ccc62c1875ac7a312bb", func := "airshare/airsharelaw13.SfqFair", spec := "sfqFair", unfollowed := true, recurses := true, apart := false }
def SfqFairSaid : Prop := sfqFairRow.holds Try.pinned (OpenSpec.ofChange sfqFairSpec)

/-- ITS FALSE NEIGHBOUR: 'it returns false'. Refute it at one input. -/
def sfqFairWrong : ChangeSpec := { name := "sfqFair", fn := fun _ => fun
  | [d] => { results := [.lit (.bool false)], args := [d] }
  | _ => none }
def SfqFairWrongFalsely : Prop := sfqFairRow.holds Try.pinned (OpenSpec.ofChange sfqFairWrong)

/-- 'airsharelaw13.SfqRebase': WHATEVER THE INPUT: true; the input reads as it did. -/
def sfqRebaseSpec : ChangeSpec := { name := "sfqRebase", fn := fun _ => fun
  | [d] => { results := [.lit (.bool true)], args := [d] }
  | _ => none }
def sfqRebaseRow : OpenClaim := { program := "ytnandakoigmknaa", sum := "047c35525b416f12613920308f5a2c067f0b59a52c1d6ccc62c1875ac7a312bb", func := "airshare/airsharelaw13.SfqRebase", spec := "sfqRebase", unfollowed := true, recurses := true, apart := false }
def SfqRebaseSaid : Prop := sfqRebaseRow.holds Try.pinned (OpenSpec.ofChange sfqRebaseSpec)

/-- ITS FALSE NEIGHBOUR: 'it returns false'. Refute it at one input. -/
def sfqRebaseWrong : ChangeSpec := { name := "sfqRebase", fn := fun _ => fun
  | [d] => { results := [.lit (.bool false)], args := [d] }
  | _ => none }
def SfqRebaseWrongFalsely : Prop := sfqRebaseRow.holds Try.pinned (OpenSpec.ofChange sfqRebaseWrong)

/-- 'airsharelaw13.SfqTime': WHATEVER THE INPUT: true; the input reads as it did. -/
def sfqTimeSpec : ChangeSpec := { name := "sfqTime", fn := fun _ => fun
  | [d] => { results := [.lit (.bool true)], args := [d] }
  | _ => none }
def sfqTimeRow : OpenClaim := { program := "ytnandakoigmknaa", sum := "047c35525b416f12613920308f5a2c067f0b59a52c1d6ccc62c1875ac7a312bb", func := "airshare/airsharelaw13.SfqTime", spec := "sfqTime", unfollowed := true, recurses := true, apart := false }
def SfqTimeSaid : Prop := sfqTimeRow.holds Try.pinned (OpenSpec.ofChange sfqTimeSpec)

/-- ITS FALSE NEIGHBOUR: 'it returns false'. Refute it at one input. -/
def sfqTimeWrong : ChangeSpec := { name := "sfqTime", fn := fun _ => fun
  | [d] => { results := [.lit (.bool false)], args := [d] }
  | _ => none }
def SfqTimeWrongFalsely : Prop := sfqTimeRow.holds Try.pinned (OpenSpec.ofChange sfqTimeWrong)

/-- 'airsharelaw13.SfqScript': WHATEVER THE INPUT: true; the input reads as it did. -/
def sfqScriptSpec : ChangeSpec := { name := "sfqScript", fn := fun _ => fun
  | [d1, d2] => { results := [.lit (.bool true)], args := [d1, d2] }
  | _ => none }
def sfqScriptRow : OpenClaim := { program := "ytnandakoigmknaa", sum := "047c35525b416f12613920308f5a2c067f0b59a52c1d6ccc62c1875ac7a312bb", func := "airshare/airsharelaw13.SfqScript", spec := "sfqScript", inPlace := ["maps.clone"], unfollowed := true, recurses := true, apart := false }
def SfqScriptSaid : Prop := sfqScriptRow.holds Try.pinned (OpenSpec.ofChange sfqScriptSpec)

/-- ITS FALSE NEIGHBOUR: 'it returns false'. Refute it at one input. -/
def sfqScriptWrong : ChangeSpec := { name := "sfqScript", fn := fun _ => fun
  | [d1, d2] => { results := [.lit (.bool false)], args := [d1, d2] }
  | _ => none }
def SfqScriptWrongFalsely : Prop := sfqScriptRow.holds Try.pinned (OpenSpec.ofChange sfqScriptWrong)

/- THE SECOND FORM. 'bulk': how many values and letters a reading holds, each counted each time it is reached (what is shared counts as often as it is met; a slice's spare places count too). A statement '..UptoSaid' is the law's where the arguments, and the package variables that the reading takes, are together of bulk at most 1048576: NARROWER than '..Said'. Prove '..Said' where nothing that the law and all that it calls make is longer than what came in: it says more and counts as full. Else prove '..UptoSaid'. A law counts once. -/
mutual
def uptoBulk {H : Type} : DataW H → Nat
  | .lit (.string bytes) => bytes.length + 1
  | .lit _ => 1
  | .nil => 1
  | .ptr d => uptoBulk d + 1
  | .slice elems spare => uptoBulkAll elems + uptoBulkAll spare + 1
  | .agg parts => uptoBulkAll parts + 1
  | .iface _ d => uptoBulk d + 1
  | .map entries => uptoBulkEntries entries + 1
  | .held _ => 1
def uptoBulkAll {H : Type} : List (DataW H) → Nat
  | [] => 0
  | d :: r => uptoBulk d + uptoBulkAll r
def uptoBulkEntries {H : Type} : List (Lit × DataW H) → Nat
  | [] => 0
  | x :: r => uptoBulkEntry x + uptoBulkEntries r
def uptoBulkEntry {H : Type} : Lit × DataW H → Nat
  | (.string bytes, d) => bytes.length + uptoBulk d + 1
  | (_, d) => uptoBulk d + 1
 end
def uptoSmall : (H : Type) → List (DataW H) → Bool := fun _ ds => decide (uptoBulkAll ds ≤ 1048576)
def OpenSpec.upto (s : _root_.Go.ChangeSpec) : _root_.Go.OpenSpec := { _root_.Go.OpenSpec.ofChange s with cond := some uptoSmall }

/-- 'airsharelaw23.CompSpread', WHERE WHAT IT READS IS OF BULK AT MOST 1048576: true; the input reads as it did. -/
def compSpreadUptoRow : OpenClaim := { program := "ytnandakoigmknaa", sum := "047c35525b416f12613920308f5a2c067f0b59a52c1d6ccc62c1875ac7a312bb", func := "airshare/airsharelaw23.CompSpread", spec := "compSpread", unfollowed := true, recurses := true, apart := false, narrowed := true }
def CompSpreadUptoSaid : Prop := compSpreadUptoRow.holds Try.pinned (OpenSpec.upto compSpreadSpec)

/-- 'airsharelaw23.CompTurns', WHERE WHAT IT READS IS OF BULK AT MOST 1048576: true; the input reads as it did. -/
def compTurnsUptoRow : OpenClaim := { program := "ytnandakoigmknaa", sum := "047c35525b416f12613920308f5a2c067f0b59a52c1d6ccc62c1875ac7a312bb", func := "airshare/airsharelaw23.CompTurns", spec := "compTurns", unfollowed := true, recurses := true, apart := false, narrowed := true }
def CompTurnsUptoSaid : Prop := compTurnsUptoRow.holds Try.pinned (OpenSpec.upto compTurnsSpec)

/-- 'airsharelaw23.CompRebase', WHERE WHAT IT READS IS OF BULK AT MOST 1048576: true; the input reads as it did. -/
def compRebaseUptoRow : OpenClaim := { program := "ytnandakoigmknaa", sum := "047c35525b416f12613920308f5a2c067f0b59a52c1d6ccc62c1875ac7a312bb", func := "airshare/airsharelaw23.CompRebase", spec := "compRebase", unfollowed := true, recurses := true, apart := false, narrowed := true }
def CompRebaseUptoSaid : Prop := compRebaseUptoRow.holds Try.pinned (OpenSpec.upto compRebaseSpec)

/-- 'airsharelaw23.CompScript', WHERE WHAT IT READS IS OF BULK AT MOST 1048576: true; the input reads as it did. -/
def compScriptUptoRow : OpenClaim := { program := "ytnandakoigmknaa", sum := "047c35525b416f12613920308f5a2c067f0b59a52c1d6ccc62c1875ac7a312bb", func := "airshare/airsharelaw23.CompScript", spec := "compScript", inPlace := ["maps.clone"], unfollowed := true, recurses := true, apart := false, narrowed := true }
def CompScriptUptoSaid : Prop := compScriptUptoRow.holds Try.pinned (OpenSpec.upto compScriptSpec)

/-- 'airsharelaw13.SfqRange', WHERE WHAT IT READS IS OF BULK AT MOST 1048576: true; the input reads as it did. -/
def sfqRangeUptoRow : OpenClaim := { program := "ytnandakoigmknaa", sum := "047c35525b416f12613920308f5a2c067f0b59a52c1d6ccc62c1875ac7a312bb", func := "airshare/airsharelaw13.SfqRange", spec := "sfqRange", unfollowed := true, recurses := true, apart := false, narrowed := true }
def SfqRangeUptoSaid : Prop := sfqRangeUptoRow.holds Try.pinned (OpenSpec.upto sfqRangeSpec)

/-- 'airsharelaw13.SfqFair', WHERE WHAT IT READS IS OF BULK AT MOST 1048576: true; the input reads as it did. -/
def sfqFairUptoRow : OpenClaim := { program := "ytnandakoigmknaa", sum := "047c35525b416f12613920308f5a2c067f0b59a52c1d6ccc62c1875ac7a312bb", func := "airshare/airsharelaw13.SfqFair", spec := "sfqFair", unfollowed := true, recurses := true, apart := false, narrowed := true }
def SfqFairUptoSaid : Prop := sfqFairUptoRow.holds Try.pinned (OpenSpec.upto sfqFairSpec)

/-- 'airsharelaw13.SfqRebase', WHERE WHAT IT READS IS OF BULK AT MOST 1048576: true; the input reads as it did. -/
def sfqRebaseUptoRow : OpenClaim := { program := "ytnandakoigmknaa", sum := "047c35525b416f12613920308f5a2c067f0b59a52c1d6ccc62c1875ac7a312bb", func := "airshare/airsharelaw13.SfqRebase", spec := "sfqRebase", unfollowed := true, recurses := true, apart := false, narrowed := true }
def SfqRebaseUptoSaid : Prop := sfqRebaseUptoRow.holds Try.pinned (OpenSpec.upto sfqRebaseSpec)

/-- 'airsharelaw13.SfqTime', WHERE WHAT IT READS IS OF BULK AT MOST 1048576: true; the input reads as it did. -/
def sfqTimeUptoRow : OpenClaim := { program := "ytnandakoigmknaa", sum := "047c35525b416f12613920308f5a2c067f0b59a52c1d6ccc62c1875ac7a312bb", func := "airshare/airsharelaw13.SfqTime", spec := "sfqTime", unfollowed := true, recurses := true, apart := false, narrowed := true }
def SfqTimeUptoSaid : Prop := sfqTimeUptoRow.holds Try.pinned (OpenSpec.upto sfqTimeSpec)

/-- 'airsharelaw13.SfqScript', WHERE WHAT IT READS IS OF BULK AT MOST 1048576: true; the input reads as it did. -/
def sfqScriptUptoRow : OpenClaim := { program := "ytnandakoigmknaa", sum := "047c35525b416f12613920308f5a2c067f0b59a52c1d6ccc62c1875ac7a312bb", func := "airshare/airsharelaw13.SfqScript", spec := "sfqScript", inPlace := ["maps.clone"], unfollowed := true, recurses := true, apart := false, narrowed := true }
def SfqScriptUptoSaid : Prop := sfqScriptUptoRow.holds Try.pinned (OpenSpec.upto sfqScriptSpec)

end Rows
end Go.Proofs.Ytnandakoigmknaa
