/-
  DERIVED. GIVEN WITH THE SEED: THE CARDS: each row of YtfejhikpfhgbeaaGreatDoorRows.lean that lists a variable, with what it lists TIED to the program's text (the seventh form; the later family's looks); each row that meets fmt, with fmt's text TOLD by the authors' own Lean function (tested against real Go, not proved from fmt's source: count such statements apart). THE CARD IS WHAT COUNTS. Prove the row's statement (the work); the ties are given (YtfejhikpfhgbeaaGreatDoorTie.lean); close each card by the builder's one call (the guide's Derived/Test/ToyasCard.lean, 'card_holds'). Laid BY PROGRAM, IN A SANDBOX (cutbox-door.mjs). By AI agents, Wed Nov 11 2026. No macro, syntax, notation, axiom, sorry.
-/
import Derived.Test.YtfejhikpfhgbeaaGreatDoorRows
import GoSem.ClaimSeven
namespace Go.Proofs.YtfejhikpfhgbeaaGreatDoor
namespace Rows

/-- THE TIED CARD OF 'airsharelaw29.MachineConserves'. -/
def machineConservesCard : Claim7 := { stood := { row := machineConservesRow, standIns := [], harness := (true, "20258fb08bcc47b687a257942fd4f815638e007c2aaaca371d4e619c79be5df7"), looks := true }, kinds := [], alts := [], laidByText := true, laidKinds := [.data, .data, .data, .data, .sentinel, .sentinel, .pinned], laidTests := true, laidLooks := .later }
def MachineConservesCardSaid : Prop := Claim7.holds Tryz.pinned (.plain (OpenSpec.ofChange machineConservesSpec)) machineConservesCard

/-- THE TIED CARD OF 'airsharelaw29.MachineIdle'. -/
def machineIdleCard : Claim7 := { stood := { row := machineIdleRow, standIns := [], harness := (true, "20258fb08bcc47b687a257942fd4f815638e007c2aaaca371d4e619c79be5df7"), looks := true }, kinds := [], alts := [], laidByText := true, laidKinds := [.data, .data, .data, .data, .sentinel, .sentinel, .pinned], laidTests := true, laidLooks := .later }
def MachineIdleCardSaid : Prop := Claim7.holds Tryz.pinned (.plain (OpenSpec.ofChange machineIdleSpec)) machineIdleCard

/-- THE SECOND FORM's CARD OF 'airsharelaw29.MachineConserves'. -/
def machineConservesUptoCard : Claim7 := { stood := { row := machineConservesUptoRow, standIns := [], harness := (true, "20258fb08bcc47b687a257942fd4f815638e007c2aaaca371d4e619c79be5df7"), looks := true }, kinds := [], alts := [], laidByText := true, laidKinds := [.data, .data, .data, .data, .sentinel, .sentinel, .pinned], laidTests := true, laidLooks := .later }
def MachineConservesUptoCardSaid : Prop := Claim7.holds Tryz.pinned (.plain (OpenSpec.upto machineConservesSpec)) machineConservesUptoCard

/-- THE SECOND FORM's CARD OF 'airsharelaw29.MachineIdle'. -/
def machineIdleUptoCard : Claim7 := { stood := { row := machineIdleUptoRow, standIns := [], harness := (true, "20258fb08bcc47b687a257942fd4f815638e007c2aaaca371d4e619c79be5df7"), looks := true }, kinds := [], alts := [], laidByText := true, laidKinds := [.data, .data, .data, .data, .sentinel, .sentinel, .pinned], laidTests := true, laidLooks := .later }
def MachineIdleUptoCardSaid : Prop := Claim7.holds Tryz.pinned (.plain (OpenSpec.upto machineIdleSpec)) machineIdleUptoCard
end Rows
end Go.Proofs.YtfejhikpfhgbeaaGreatDoor
