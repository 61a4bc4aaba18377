/-
  No cell of these rows narrows 'for every input' (looked for: loops, veiled, ifaces, maps, wideKeys, modest, calm, conditions, laid).
  DERIVED. THE GIVEN ROWS OF THIS SEAT. 4 by the template 'for every input the law returns true; each argument reads behind the call as it read before'; 0 by the template 'total and deterministic' (their statements: YtalkmeclkjnjnaaTotals.lean).
  GIVEN WITH THE SEED: the statements are not yours to turn. If you find one false, say at which input.
  Laid BY PROGRAM, IN A SANDBOX (cutbox-rows.mjs): the forced cells as the released guide's own fill.sh prints them over the translation 8f938380c3a085ac… (all of the seat's roots in one cut). By AI agents, Wed Nov 11 2026. No macro, syntax, notation, axiom, sorry.
-/
import Derived.Test.YtalkmeclkjnjnaaChecked
import GoSem.Claim
import GoSem.ClaimJoined
import GoSem.ClaimMapViews
import Derived.JoinedTies
import Derived.KernelRfl
namespace Go.Proofs.Ytalkmeclkjnjnaa
/- THE CELL 'sum', in the pinned program and in every row, IS THE sha256 OF THE DUMP (.gsa) THAT YtalkmeclkjnjnaaProg.lean LOADS. Nothing in Lean hashes anything: it is a label: what it is worth is what the hold of that sum in a sandbox is worth. -/
noncomputable def Try.pinned : Pinned := { name := "ytalkmeclkjnjnaa", sum := "8f938380c3a085ac1c800cc8bc5e4603e411ec215d06df968a02b0a4dfd4697c", checked := Try.checked }
namespace Rows
def none {H : Type} : Left H := { results := [], args := [] }

/-- 'airsharelaw22.LagLeave': WHATEVER THE INPUT: true; the input reads as it did. -/
def lagLeaveSpec : ChangeSpec := { name := "lagLeave", fn := fun _ => fun
  | [d1, d2] => { results := [.lit (.bool true)], args := [d1, d2] }
  | _ => none }
def lagLeaveRow : OpenClaim := { program := "ytalkmeclkjnjnaa", sum := "8f938380c3a085ac1c800cc8bc5e4603e411ec215d06df968a02b0a4dfd4697c", func := "airshare/airsharelaw22.LagLeave", spec := "lagLeave", unfollowed := true, recurses := true, named := ["math/bits.divideError", "math/bits.overflowError"], apart := false }
def LagLeaveSaid : Prop := lagLeaveRow.holds Try.pinned (OpenSpec.ofChange lagLeaveSpec)

/-- ITS FALSE NEIGHBOUR: 'it returns false'. Refute it at one input. -/
def lagLeaveWrong : ChangeSpec := { name := "lagLeave", fn := fun _ => fun
  | [d1, d2] => { results := [.lit (.bool false)], args := [d1, d2] }
  | _ => none }
def LagLeaveWrongFalsely : Prop := lagLeaveRow.holds Try.pinned (OpenSpec.ofChange lagLeaveWrong)

/-- 'airsharelaw22.LagErrors': WHATEVER THE INPUT: true; the input reads as it did. -/
def lagErrorsSpec : ChangeSpec := { name := "lagErrors", fn := fun _ => fun
  | [d1, d2, d3] => { results := [.lit (.bool true)], args := [d1, d2, d3] }
  | _ => none }
def lagErrorsRow : OpenClaim := { program := "ytalkmeclkjnjnaa", sum := "8f938380c3a085ac1c800cc8bc5e4603e411ec215d06df968a02b0a4dfd4697c", func := "airshare/airsharelaw22.LagErrors", spec := "lagErrors", unfollowed := true, recurses := true, named := ["math/bits.divideError", "math/bits.overflowError"], apart := false }
def LagErrorsSaid : Prop := lagErrorsRow.holds Try.pinned (OpenSpec.ofChange lagErrorsSpec)

/-- ITS FALSE NEIGHBOUR: 'it returns false'. Refute it at one input. -/
def lagErrorsWrong : ChangeSpec := { name := "lagErrors", fn := fun _ => fun
  | [d1, d2, d3] => { results := [.lit (.bool false)], args := [d1, d2, d3] }
  | _ => none }
def LagErrorsWrongFalsely : Prop := lagErrorsRow.holds Try.pinned (OpenSpec.ofChange lagErrorsWrong)

/-- 'airsharelaw22.LagScript': WHATEVER THE INPUT: true; the input reads as it did. -/
def lagScriptSpec : ChangeSpec := { name := "lagScript", fn := fun _ => fun
  | [d] => { results := [.lit (.bool true)], args := [d] }
  | _ => none }
def lagScriptRow : OpenClaim := { program := "ytalkmeclkjnjnaa", sum := "8f938380c3a085ac1c800cc8bc5e4603e411ec215d06df968a02b0a4dfd4697c", func := "airshare/airsharelaw22.LagScript", spec := "lagScript", unfollowed := true, recurses := true, named := ["math/bits.divideError", "math/bits.overflowError"], apart := false }
def LagScriptSaid : Prop := lagScriptRow.holds Try.pinned (OpenSpec.ofChange lagScriptSpec)

/-- ITS FALSE NEIGHBOUR: 'it returns false'. Refute it at one input. -/
def lagScriptWrong : ChangeSpec := { name := "lagScript", fn := fun _ => fun
  | [d] => { results := [.lit (.bool false)], args := [d] }
  | _ => none }
def LagScriptWrongFalsely : Prop := lagScriptRow.holds Try.pinned (OpenSpec.ofChange lagScriptWrong)

/-- 'airsharelaw22.LagZero': WHATEVER THE INPUT: true; the input reads as it did. -/
def lagZeroSpec : ChangeSpec := { name := "lagZero", fn := fun _ => fun
  | [d1, d2] => { results := [.lit (.bool true)], args := [d1, d2] }
  | _ => none }
def lagZeroRow : OpenClaim := { program := "ytalkmeclkjnjnaa", sum := "8f938380c3a085ac1c800cc8bc5e4603e411ec215d06df968a02b0a4dfd4697c", func := "airshare/airsharelaw22.LagZero", spec := "lagZero", unfollowed := true, recurses := true, named := ["math/bits.divideError", "math/bits.overflowError"], apart := false }
def LagZeroSaid : Prop := lagZeroRow.holds Try.pinned (OpenSpec.ofChange lagZeroSpec)

/-- ITS FALSE NEIGHBOUR: 'it returns false'. Refute it at one input. -/
def lagZeroWrong : ChangeSpec := { name := "lagZero", fn := fun _ => fun
  | [d1, d2] => { results := [.lit (.bool false)], args := [d1, d2] }
  | _ => none }
def LagZeroWrongFalsely : Prop := lagZeroRow.holds Try.pinned (OpenSpec.ofChange lagZeroWrong)

/- THE SECOND FORM. 'bulk': how many values and letters a reading holds, each counted each time it is reached (what is shared counts as often as it is met; a slice's spare places count too). A statement '..UptoSaid' is the law's where the arguments, and the package variables that the reading takes, are together of bulk at most 1048576: NARROWER than '..Said'. Prove '..Said' where nothing that the law and all that it calls make is longer than what came in: it says more and counts as full. Else prove '..UptoSaid'. A law counts once. -/
mutual
def uptoBulk {H : Type} : DataW H → Nat
  | .lit (.string bytes) => bytes.length + 1
  | .lit _ => 1
  | .nil => 1
  | .ptr d => uptoBulk d + 1
  | .slice elems spare => uptoBulkAll elems + uptoBulkAll spare + 1
  | .agg parts => uptoBulkAll parts + 1
  | .iface _ d => uptoBulk d + 1
  | .map entries => uptoBulkEntries entries + 1
  | .held _ => 1
def uptoBulkAll {H : Type} : List (DataW H) → Nat
  | [] => 0
  | d :: r => uptoBulk d + uptoBulkAll r
def uptoBulkEntries {H : Type} : List (Lit × DataW H) → Nat
  | [] => 0
  | x :: r => uptoBulkEntry x + uptoBulkEntries r
def uptoBulkEntry {H : Type} : Lit × DataW H → Nat
  | (.string bytes, d) => bytes.length + uptoBulk d + 1
  | (_, d) => uptoBulk d + 1
 end
def uptoSmall : (H : Type) → List (DataW H) → Bool := fun _ ds => decide (uptoBulkAll ds ≤ 1048576)
def OpenSpec.upto (s : _root_.Go.ChangeSpec) : _root_.Go.OpenSpec := { _root_.Go.OpenSpec.ofChange s with cond := some uptoSmall }

/-- 'airsharelaw22.LagLeave', WHERE WHAT IT READS IS OF BULK AT MOST 1048576: true; the input reads as it did. -/
def lagLeaveUptoRow : OpenClaim := { program := "ytalkmeclkjnjnaa", sum := "8f938380c3a085ac1c800cc8bc5e4603e411ec215d06df968a02b0a4dfd4697c", func := "airshare/airsharelaw22.LagLeave", spec := "lagLeave", unfollowed := true, recurses := true, named := ["math/bits.divideError", "math/bits.overflowError"], apart := false, narrowed := true }
def LagLeaveUptoSaid : Prop := lagLeaveUptoRow.holds Try.pinned (OpenSpec.upto lagLeaveSpec)

/-- 'airsharelaw22.LagErrors', WHERE WHAT IT READS IS OF BULK AT MOST 1048576: true; the input reads as it did. -/
def lagErrorsUptoRow : OpenClaim := { program := "ytalkmeclkjnjnaa", sum := "8f938380c3a085ac1c800cc8bc5e4603e411ec215d06df968a02b0a4dfd4697c", func := "airshare/airsharelaw22.LagErrors", spec := "lagErrors", unfollowed := true, recurses := true, named := ["math/bits.divideError", "math/bits.overflowError"], apart := false, narrowed := true }
def LagErrorsUptoSaid : Prop := lagErrorsUptoRow.holds Try.pinned (OpenSpec.upto lagErrorsSpec)

/-- 'airsharelaw22.LagScript', WHERE WHAT IT READS IS OF BULK AT MOST 1048576: true; the input reads as it did. -/
def lagScriptUptoRow : OpenClaim := { program := "ytalkmeclkjnjnaa", sum := "8f938380c3a085ac1c800cc8bc5e4603e411ec215d06df968a02b0a4dfd4697c", func := "airshare/airsharelaw22.LagScript", spec := "lagScript", unfollowed := true, recurses := true, named := ["math/bits.divideError", "math/bits.overflowError"], apart := false, narrowed := true }
def LagScriptUptoSaid : Prop := lagScriptUptoRow.holds Try.pinned (OpenSpec.upto lagScriptSpec)

/-- 'airsharelaw22.LagZero', WHERE WHAT IT READS IS OF BULK AT MOST 1048576: true; the input reads as it did. -/
def lagZeroUptoRow : OpenClaim := { program := "ytalkmeclkjnjnaa", sum := "8f938380c3a085ac1c800cc8bc5e4603e411ec215d06df968a02b0a4dfd4697c", func := "airshare/airsharelaw22.LagZero", spec := "lagZero", unfollowed := true, recurses := true, named := ["math/bits.divideError", "math/bits.overflowError"], apart := false, narrowed := true }
def LagZeroUptoSaid : Prop := lagZeroUptoRow.holds Try.pinned (OpenSpec.upto lagZeroSpec)

end Rows
end Go.Proofs.Ytalkmeclkjnjnaa
