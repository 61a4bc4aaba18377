/-
  DERIVED. GIVEN WITH THE SEED: THE CARDS: each row of YtladamlfbdbdgaaDoorRows.lean that lists a variable, with what it lists TIED to the program's text (the seventh form; the later family's looks); each row that meets fmt, with fmt's text TOLD by the authors' own Lean function (tested against real Go, not proved from fmt's source: count such statements apart). THE CARD IS WHAT COUNTS. Prove the row's statement (the work); the ties are given (YtladamlfbdbdgaaDoorTie.lean); close each card by the builder's one call (the guide's Derived/Test/ToyasCard.lean, 'card_holds'). Laid BY PROGRAM, IN A SANDBOX (cutbox-door.mjs). By AI agents, Wed Nov 11 2026. No macro, syntax, notation, axiom, sorry.
-/
import Derived.Test.YtladamlfbdbdgaaDoorRows
import GoSem.ClaimSeven
namespace Go.Proofs.YtladamlfbdbdgaaDoor
namespace Rows

/-- THE TIED CARD OF 'airsharelaw10.FlowsAdmission'. -/
def flowsAdmissionCard : Claim7 := { stood := { row := flowsAdmissionRow, standIns := [], harness := (true, "faa3a158d4dea108b94ee9399fafa1cdb2d688051def5dbe50364db6726d0661"), looks := false }, kinds := [], alts := [], laidByText := true, laidKinds := [.data, .pinned], laidTests := true, laidLooks := .later }
def FlowsAdmissionCardSaid : Prop := Claim7.holds Tryd.pinned (.plain (OpenSpec.ofChange flowsAdmissionSpec)) flowsAdmissionCard

/-- THE TIED CARD OF 'airsharelaw10.FlowsNames'. -/
def flowsNamesCard : Claim7 := { stood := { row := flowsNamesRow, standIns := [], harness := (true, "faa3a158d4dea108b94ee9399fafa1cdb2d688051def5dbe50364db6726d0661"), looks := false }, kinds := [], alts := [], laidByText := true, laidKinds := [.data, .pinned], laidTests := true, laidLooks := .later }
def FlowsNamesCardSaid : Prop := Claim7.holds Tryd.pinned (.plain (OpenSpec.ofChange flowsNamesSpec)) flowsNamesCard

/-- THE TIED CARD OF 'airsharelaw10.FlowsFull'. -/
def flowsFullCard : Claim7 := { stood := { row := flowsFullRow, standIns := [], harness := (true, "faa3a158d4dea108b94ee9399fafa1cdb2d688051def5dbe50364db6726d0661"), looks := false }, kinds := [], alts := [], laidByText := true, laidKinds := [.data, .pinned], laidTests := true, laidLooks := .later }
def FlowsFullCardSaid : Prop := Claim7.holds Tryd.pinned (.plain (OpenSpec.ofChange flowsFullSpec)) flowsFullCard

/-- THE TIED CARD OF 'airsharelaw10.FlowsScript'. -/
def flowsScriptCard : Claim7 := { stood := { row := flowsScriptRow, standIns := [], harness := (true, "faa3a158d4dea108b94ee9399fafa1cdb2d688051def5dbe50364db6726d0661"), looks := false }, kinds := [], alts := [], laidByText := true, laidKinds := [.data, .pinned], laidTests := true, laidLooks := .later }
def FlowsScriptCardSaid : Prop := Claim7.holds Tryd.pinned (.plain (OpenSpec.ofChange flowsScriptSpec)) flowsScriptCard

/-- THE SECOND FORM's CARD OF 'airsharelaw10.FlowsAdmission'. -/
def flowsAdmissionUptoCard : Claim7 := { stood := { row := flowsAdmissionUptoRow, standIns := [], harness := (true, "faa3a158d4dea108b94ee9399fafa1cdb2d688051def5dbe50364db6726d0661"), looks := false }, kinds := [], alts := [], laidByText := true, laidKinds := [.data, .pinned], laidTests := true, laidLooks := .later }
def FlowsAdmissionUptoCardSaid : Prop := Claim7.holds Tryd.pinned (.plain (OpenSpec.upto flowsAdmissionSpec)) flowsAdmissionUptoCard

/-- THE SECOND FORM's CARD OF 'airsharelaw10.FlowsNames'. -/
def flowsNamesUptoCard : Claim7 := { stood := { row := flowsNamesUptoRow, standIns := [], harness := (true, "faa3a158d4dea108b94ee9399fafa1cdb2d688051def5dbe50364db6726d0661"), looks := false }, kinds := [], alts := [], laidByText := true, laidKinds := [.data, .pinned], laidTests := true, laidLooks := .later }
def FlowsNamesUptoCardSaid : Prop := Claim7.holds Tryd.pinned (.plain (OpenSpec.upto flowsNamesSpec)) flowsNamesUptoCard

/-- THE SECOND FORM's CARD OF 'airsharelaw10.FlowsFull'. -/
def flowsFullUptoCard : Claim7 := { stood := { row := flowsFullUptoRow, standIns := [], harness := (true, "faa3a158d4dea108b94ee9399fafa1cdb2d688051def5dbe50364db6726d0661"), looks := false }, kinds := [], alts := [], laidByText := true, laidKinds := [.data, .pinned], laidTests := true, laidLooks := .later }
def FlowsFullUptoCardSaid : Prop := Claim7.holds Tryd.pinned (.plain (OpenSpec.upto flowsFullSpec)) flowsFullUptoCard

/-- THE SECOND FORM's CARD OF 'airsharelaw10.FlowsScript'. -/
def flowsScriptUptoCard : Claim7 := { stood := { row := flowsScriptUptoRow, standIns := [], harness := (true, "faa3a158d4dea108b94ee9399fafa1cdb2d688051def5dbe50364db6726d0661"), looks := false }, kinds := [], alts := [], laidByText := true, laidKinds := [.data, .pinned], laidTests := true, laidLooks := .later }
def FlowsScriptUptoCardSaid : Prop := Claim7.holds Tryd.pinned (.plain (OpenSpec.upto flowsScriptSpec)) flowsScriptUptoCard
end Rows
end Go.Proofs.YtladamlfbdbdgaaDoor
