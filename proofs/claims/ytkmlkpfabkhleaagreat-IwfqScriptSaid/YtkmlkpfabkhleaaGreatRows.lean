/-
  No cell of these rows narrows 'for every input' (looked for: loops, veiled, ifaces, maps, wideKeys, modest, calm, conditions, laid).
  DERIVED. THE GIVEN ROWS OF THIS SEAT. 4 by the template 'for every input the law returns true; each argument reads behind the call as it read before'; 0 by the template 'total and deterministic' (their statements: YtkmlkpfabkhleaaGreatTotals.lean).
  GIVEN WITH THE SEED: the statements are not yours to turn. If you find one false, say at which input.
  Laid BY PROGRAM, IN A SANDBOX (cutbox-rows.mjs): the forced cells as the released guide's own fill.sh prints them over the translation 0e765993bb640ba3… (all of the seat's roots in one cut). By AI agents, Wed Nov 11 2026. No macro, syntax, notation, axiom, sorry.
-/
import Derived.Test.YtkmlkpfabkhleaaGreatChecked
import GoSem.Claim
import GoSem.ClaimJoined
import GoSem.ClaimMapViews
import Derived.JoinedTies
import Derived.KernelRfl
namespace Go.Proofs.YtkmlkpfabkhleaaGreat
/- THE CELL 'sum', in the pinned program and in every row, IS THE sha256 OF THE DUMP (.gsa) THAT YtkmlkpfabkhleaaGreatProg.lean LOADS. Nothing in Lean hashes anything: it is a label: what it is worth is what the hold of that sum in a sandbox is worth. -/
noncomputable def Tryz.pinned : Pinned := { name := "ytkmlkpfabkhleaagreat", sum := "0e765993bb640ba38974802c4709e7f0eb3296217ab93037a927a01f04f29c52", checked := Tryz.checked }
namespace Rows
def none {H : Type} : Left H := { results := [], args := [] }

/-- 'airsharelaw24.CifqLead': WHATEVER THE INPUT: true; the input reads as it did. -/
def cifqLeadSpec : ChangeSpec := { name := "cifqLead", fn := fun _ => fun
  | [d] => { results := [.lit (.bool true)], args := [d] }
  | _ => none }
def cifqLeadRow : OpenClaim := { program := "ytkmlkpfabkhleaagreat", sum := "0e765993bb640ba38974802c4709e7f0eb3296217ab93037a927a01f04f29c52", func := "airshare/airsharelaw24.CifqLead", spec := "cifqLead", inPlace := ["maps.clone"], unfollowed := true, recurses := true, apart := false }
def CifqLeadSaid : Prop := cifqLeadRow.holds Tryz.pinned (OpenSpec.ofChange cifqLeadSpec)

/-- ITS FALSE NEIGHBOUR: 'it returns false'. Refute it at one input. -/
def cifqLeadWrong : ChangeSpec := { name := "cifqLead", fn := fun _ => fun
  | [d] => { results := [.lit (.bool false)], args := [d] }
  | _ => none }
def CifqLeadWrongFalsely : Prop := cifqLeadRow.holds Tryz.pinned (OpenSpec.ofChange cifqLeadWrong)

/-- 'airsharelaw24.CifqScript': WHATEVER THE INPUT: true; the input reads as it did. -/
def cifqScriptSpec : ChangeSpec := { name := "cifqScript", fn := fun _ => fun
  | [d1, d2, d3] => { results := [.lit (.bool true)], args := [d1, d2, d3] }
  | _ => none }
def cifqScriptRow : OpenClaim := { program := "ytkmlkpfabkhleaagreat", sum := "0e765993bb640ba38974802c4709e7f0eb3296217ab93037a927a01f04f29c52", func := "airshare/airsharelaw24.CifqScript", spec := "cifqScript", inPlace := ["maps.clone"], unfollowed := true, recurses := true, named := ["math/bits.divideError", "math/bits.overflowError"], apart := false }
def CifqScriptSaid : Prop := cifqScriptRow.holds Tryz.pinned (OpenSpec.ofChange cifqScriptSpec)

/-- ITS FALSE NEIGHBOUR: 'it returns false'. Refute it at one input. -/
def cifqScriptWrong : ChangeSpec := { name := "cifqScript", fn := fun _ => fun
  | [d1, d2, d3] => { results := [.lit (.bool false)], args := [d1, d2, d3] }
  | _ => none }
def CifqScriptWrongFalsely : Prop := cifqScriptRow.holds Tryz.pinned (OpenSpec.ofChange cifqScriptWrong)

/-- 'airsharelaw25.IwfqScript': WHATEVER THE INPUT: true; the input reads as it did. -/
def iwfqScriptSpec : ChangeSpec := { name := "iwfqScript", fn := fun _ => fun
  | [d1, d2, d3, d4] => { results := [.lit (.bool true)], args := [d1, d2, d3, d4] }
  | _ => none }
def iwfqScriptRow : OpenClaim := { program := "ytkmlkpfabkhleaagreat", sum := "0e765993bb640ba38974802c4709e7f0eb3296217ab93037a927a01f04f29c52", func := "airshare/airsharelaw25.IwfqScript", spec := "iwfqScript", unfollowed := true, recurses := true, named := ["math/bits.divideError", "math/bits.overflowError"], apart := false }
def IwfqScriptSaid : Prop := iwfqScriptRow.holds Tryz.pinned (OpenSpec.ofChange iwfqScriptSpec)

/-- ITS FALSE NEIGHBOUR: 'it returns false'. Refute it at one input. -/
def iwfqScriptWrong : ChangeSpec := { name := "iwfqScript", fn := fun _ => fun
  | [d1, d2, d3, d4] => { results := [.lit (.bool false)], args := [d1, d2, d3, d4] }
  | _ => none }
def IwfqScriptWrongFalsely : Prop := iwfqScriptRow.holds Tryz.pinned (OpenSpec.ofChange iwfqScriptWrong)

/-- 'airsharelaw25.IwfqBounds': WHATEVER THE INPUT: true; the input reads as it did. -/
def iwfqBoundsSpec : ChangeSpec := { name := "iwfqBounds", fn := fun _ => fun
  | [d] => { results := [.lit (.bool true)], args := [d] }
  | _ => none }
def iwfqBoundsRow : OpenClaim := { program := "ytkmlkpfabkhleaagreat", sum := "0e765993bb640ba38974802c4709e7f0eb3296217ab93037a927a01f04f29c52", func := "airshare/airsharelaw25.IwfqBounds", spec := "iwfqBounds", unfollowed := true, recurses := true, named := ["math/bits.divideError", "math/bits.overflowError"], apart := false }
def IwfqBoundsSaid : Prop := iwfqBoundsRow.holds Tryz.pinned (OpenSpec.ofChange iwfqBoundsSpec)

/-- ITS FALSE NEIGHBOUR: 'it returns false'. Refute it at one input. -/
def iwfqBoundsWrong : ChangeSpec := { name := "iwfqBounds", fn := fun _ => fun
  | [d] => { results := [.lit (.bool false)], args := [d] }
  | _ => none }
def IwfqBoundsWrongFalsely : Prop := iwfqBoundsRow.holds Tryz.pinned (OpenSpec.ofChange iwfqBoundsWrong)

/- THE SECOND FORM. 'bulk': how many values and letters a reading holds, each counted each time it is reached (what is shared counts as often as it is met; a slice's spare places count too). A statement '..UptoSaid' is the law's where the arguments, and the package variables that the reading takes, are together of bulk at most 1048576: NARROWER than '..Said'. Prove '..Said' where nothing that the law and all that it calls make is longer than what came in: it says more and counts as full. Else prove '..UptoSaid'. A law counts once. -/
mutual
def uptoBulk {H : Type} : DataW H → Nat
  | .lit (.string bytes) => bytes.length + 1
  | .lit _ => 1
  | .nil => 1
  | .ptr d => uptoBulk d + 1
  | .slice elems spare => uptoBulkAll elems + uptoBulkAll spare + 1
  | .agg parts => uptoBulkAll parts + 1
  | .iface _ d => uptoBulk d + 1
  | .map entries => uptoBulkEntries entries + 1
  | .held _ => 1
def uptoBulkAll {H : Type} : List (DataW H) → Nat
  | [] => 0
  | d :: r => uptoBulk d + uptoBulkAll r
def uptoBulkEntries {H : Type} : List (Lit × DataW H) → Nat
  | [] => 0
  | x :: r => uptoBulkEntry x + uptoBulkEntries r
def uptoBulkEntry {H : Type} : Lit × DataW H → Nat
  | (.string bytes, d) => bytes.length + uptoBulk d + 1
  | (_, d) => uptoBulk d + 1
 end
def uptoSmall : (H : Type) → List (DataW H) → Bool := fun _ ds => decide (uptoBulkAll ds ≤ 1048576)
def OpenSpec.upto (s : _root_.Go.ChangeSpec) : _root_.Go.OpenSpec := { _root_.Go.OpenSpec.ofChange s with cond := some uptoSmall }

/-- 'airsharelaw24.CifqLead', WHERE WHAT IT READS IS OF BULK AT MOST 1048576: true; the input reads as it did. -/
def cifqLeadUptoRow : OpenClaim := { program := "ytkmlkpfabkhleaagreat", sum := "0e765993bb640ba38974802c4709e7f0eb3296217ab93037a927a01f04f29c52", func := "airshare/airsharelaw24.CifqLead", spec := "cifqLead", inPlace := ["maps.clone"], unfollowed := true, recurses := true, apart := false, narrowed := true }
def CifqLeadUptoSaid : Prop := cifqLeadUptoRow.holds Tryz.pinned (OpenSpec.upto cifqLeadSpec)

/-- 'airsharelaw24.CifqScript', WHERE WHAT IT READS IS OF BULK AT MOST 1048576: true; the input reads as it did. -/
def cifqScriptUptoRow : OpenClaim := { program := "ytkmlkpfabkhleaagreat", sum := "0e765993bb640ba38974802c4709e7f0eb3296217ab93037a927a01f04f29c52", func := "airshare/airsharelaw24.CifqScript", spec := "cifqScript", inPlace := ["maps.clone"], unfollowed := true, recurses := true, named := ["math/bits.divideError", "math/bits.overflowError"], apart := false, narrowed := true }
def CifqScriptUptoSaid : Prop := cifqScriptUptoRow.holds Tryz.pinned (OpenSpec.upto cifqScriptSpec)

/-- 'airsharelaw25.IwfqScript', WHERE WHAT IT READS IS OF BULK AT MOST 1048576: true; the input reads as it did. -/
def iwfqScriptUptoRow : OpenClaim := { program := "ytkmlkpfabkhleaagreat", sum := "0e765993bb640ba38974802c4709e7f0eb3296217ab93037a927a01f04f29c52", func := "airshare/airsharelaw25.IwfqScript", spec := "iwfqScript", unfollowed := true, recurses := true, named := ["math/bits.divideError", "math/bits.overflowError"], apart := false, narrowed := true }
def IwfqScriptUptoSaid : Prop := iwfqScriptUptoRow.holds Tryz.pinned (OpenSpec.upto iwfqScriptSpec)

/-- 'airsharelaw25.IwfqBounds', WHERE WHAT IT READS IS OF BULK AT MOST 1048576: true; the input reads as it did. -/
def iwfqBoundsUptoRow : OpenClaim := { program := "ytkmlkpfabkhleaagreat", sum := "0e765993bb640ba38974802c4709e7f0eb3296217ab93037a927a01f04f29c52", func := "airshare/airsharelaw25.IwfqBounds", spec := "iwfqBounds", unfollowed := true, recurses := true, named := ["math/bits.divideError", "math/bits.overflowError"], apart := false, narrowed := true }
def IwfqBoundsUptoSaid : Prop := iwfqBoundsUptoRow.holds Tryz.pinned (OpenSpec.upto iwfqBoundsSpec)

end Rows
end Go.Proofs.YtkmlkpfabkhleaaGreat
