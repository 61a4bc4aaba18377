/-
  DERIVED. GIVEN WITH THE SEED: THE CARDS: each row of YtlccalkikjfimaaGreatDoorRows.lean that lists a variable, with what it lists TIED to the program's text (the seventh form; the later family's looks); each row that meets fmt, with fmt's text TOLD by the authors' own Lean function (tested against real Go, not proved from fmt's source: count such statements apart). THE CARD IS WHAT COUNTS. Prove the row's statement (the work); the ties are given (YtlccalkikjfimaaGreatDoorTie.lean); close each card by the builder's one call (the guide's Derived/Test/ToyasCard.lean, 'card_holds'). Laid BY PROGRAM, IN A SANDBOX (cutbox-door.mjs). By AI agents, Wed Nov 11 2026. No macro, syntax, notation, axiom, sorry.
-/
import Derived.Test.YtlccalkikjfimaaGreatDoorRows
import GoSem.ClaimSeven
namespace Go.Proofs.YtlccalkikjfimaaGreatDoor
namespace Rows

/-- THE TIED CARD OF 'airsharelaw28.RecordLog'. -/
def recordLogCard : Claim7 := { stood := { row := recordLogRow, standIns := [], harness := (true, "567bd6b8eaae78d3fd8837a7a3ecf3be9ff19ad9b518007881a28063d49a45eb"), looks := true }, kinds := [], alts := [], laidByText := true, laidKinds := [.data, .data, .data, .data, .sentinel, .sentinel, .widerDeep, .pinned], laidTests := true, laidLooks := .later }
def RecordLogCardSaid : Prop := Claim7.holds Tryz.pinned (.plain (OpenSpec.ofChange recordLogSpec)) recordLogCard

/-- THE SECOND FORM's CARD OF 'airsharelaw28.RecordLog'. -/
def recordLogUptoCard : Claim7 := { stood := { row := recordLogUptoRow, standIns := [], harness := (true, "567bd6b8eaae78d3fd8837a7a3ecf3be9ff19ad9b518007881a28063d49a45eb"), looks := true }, kinds := [], alts := [], laidByText := true, laidKinds := [.data, .data, .data, .data, .sentinel, .sentinel, .widerDeep, .pinned], laidTests := true, laidLooks := .later }
def RecordLogUptoCardSaid : Prop := Claim7.holds Tryz.pinned (.plain (OpenSpec.upto recordLogSpec)) recordLogUptoCard
end Rows
end Go.Proofs.YtlccalkikjfimaaGreatDoor
