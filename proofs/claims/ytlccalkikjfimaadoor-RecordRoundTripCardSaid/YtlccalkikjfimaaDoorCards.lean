/-
  DERIVED. GIVEN WITH THE SEED: THE CARDS: each row of YtlccalkikjfimaaDoorRows.lean that lists a variable, with what it lists TIED to the program's text (the seventh form; the later family's looks); each row that meets fmt, with fmt's text TOLD by the authors' own Lean function (tested against real Go, not proved from fmt's source: count such statements apart). THE CARD IS WHAT COUNTS. Prove the row's statement (the work); the ties are given (YtlccalkikjfimaaDoorTie.lean); close each card by the builder's one call (the guide's Derived/Test/ToyasCard.lean, 'card_holds'). Laid BY PROGRAM, IN A SANDBOX (cutbox-door.mjs). By AI agents, Wed Nov 11 2026. No macro, syntax, notation, axiom, sorry.
-/
import Derived.Test.YtlccalkikjfimaaDoorRows
import GoSem.ClaimSeven
namespace Go.Proofs.YtlccalkikjfimaaDoor
namespace Rows

/-- THE TIED CARD OF 'airsharelaw28.RecordFormat'. -/
def recordFormatCard : Claim7 := { stood := { row := recordFormatRow, standIns := [], harness := (true, "a19475ef43c5e634ce45e274dc674f205b59fcb4ebd4a048a0ddf98fd88d8827"), looks := true }, kinds := [], alts := [], laidByText := true, laidKinds := [.data, .data, .data, .widerDeep], laidTests := true, laidLooks := .later }
def RecordFormatCardSaid : Prop := Claim7.holds Tryd.pinned (.plain (OpenSpec.ofChange recordFormatSpec)) recordFormatCard

/-- THE TIED CARD OF 'airsharelaw28.RecordFilter'. -/
def recordFilterCard : Claim7 := { stood := { row := recordFilterRow, standIns := [], harness := (true, "a19475ef43c5e634ce45e274dc674f205b59fcb4ebd4a048a0ddf98fd88d8827"), looks := true }, kinds := [], alts := [], laidByText := true, laidKinds := [.data, .data, .data, .widerDeep], laidTests := true, laidLooks := .later }
def RecordFilterCardSaid : Prop := Claim7.holds Tryd.pinned (.plain (OpenSpec.ofChange recordFilterSpec)) recordFilterCard

/-- THE TIED CARD OF 'airsharelaw28.RecordParse'. -/
def recordParseCard : Claim7 := { stood := { row := recordParseRow, standIns := [], harness := (true, "a19475ef43c5e634ce45e274dc674f205b59fcb4ebd4a048a0ddf98fd88d8827"), looks := true }, kinds := [], alts := [], laidByText := true, laidKinds := [.data, .data, .data, .data, .sentinel, .sentinel, .widerDeep, .pinned], laidTests := true, laidLooks := .later }
def RecordParseCardSaid : Prop := Claim7.holds Tryd.pinned (.plain (OpenSpec.ofChange recordParseSpec)) recordParseCard

/-- THE TIED CARD OF 'airsharelaw28.RecordRoundTrip'. -/
def recordRoundTripCard : Claim7 := { stood := { row := recordRoundTripRow, standIns := [], harness := (true, "a19475ef43c5e634ce45e274dc674f205b59fcb4ebd4a048a0ddf98fd88d8827"), looks := true }, kinds := [], alts := [], laidByText := true, laidKinds := [.data, .data, .data, .data, .sentinel, .sentinel, .widerDeep, .pinned], laidTests := true, laidLooks := .later }
def RecordRoundTripCardSaid : Prop := Claim7.holds Tryd.pinned (.plain (OpenSpec.ofChange recordRoundTripSpec)) recordRoundTripCard

/-- THE SECOND FORM's CARD OF 'airsharelaw28.RecordFormat'. -/
def recordFormatUptoCard : Claim7 := { stood := { row := recordFormatUptoRow, standIns := [], harness := (true, "a19475ef43c5e634ce45e274dc674f205b59fcb4ebd4a048a0ddf98fd88d8827"), looks := true }, kinds := [], alts := [], laidByText := true, laidKinds := [.data, .data, .data, .widerDeep], laidTests := true, laidLooks := .later }
def RecordFormatUptoCardSaid : Prop := Claim7.holds Tryd.pinned (.plain (OpenSpec.upto recordFormatSpec)) recordFormatUptoCard

/-- THE SECOND FORM's CARD OF 'airsharelaw28.RecordFilter'. -/
def recordFilterUptoCard : Claim7 := { stood := { row := recordFilterUptoRow, standIns := [], harness := (true, "a19475ef43c5e634ce45e274dc674f205b59fcb4ebd4a048a0ddf98fd88d8827"), looks := true }, kinds := [], alts := [], laidByText := true, laidKinds := [.data, .data, .data, .widerDeep], laidTests := true, laidLooks := .later }
def RecordFilterUptoCardSaid : Prop := Claim7.holds Tryd.pinned (.plain (OpenSpec.upto recordFilterSpec)) recordFilterUptoCard

/-- THE SECOND FORM's CARD OF 'airsharelaw28.RecordParse'. -/
def recordParseUptoCard : Claim7 := { stood := { row := recordParseUptoRow, standIns := [], harness := (true, "a19475ef43c5e634ce45e274dc674f205b59fcb4ebd4a048a0ddf98fd88d8827"), looks := true }, kinds := [], alts := [], laidByText := true, laidKinds := [.data, .data, .data, .data, .sentinel, .sentinel, .widerDeep, .pinned], laidTests := true, laidLooks := .later }
def RecordParseUptoCardSaid : Prop := Claim7.holds Tryd.pinned (.plain (OpenSpec.upto recordParseSpec)) recordParseUptoCard

/-- THE SECOND FORM's CARD OF 'airsharelaw28.RecordRoundTrip'. -/
def recordRoundTripUptoCard : Claim7 := { stood := { row := recordRoundTripUptoRow, standIns := [], harness := (true, "a19475ef43c5e634ce45e274dc674f205b59fcb4ebd4a048a0ddf98fd88d8827"), looks := true }, kinds := [], alts := [], laidByText := true, laidKinds := [.data, .data, .data, .data, .sentinel, .sentinel, .widerDeep, .pinned], laidTests := true, laidLooks := .later }
def RecordRoundTripUptoCardSaid : Prop := Claim7.holds Tryd.pinned (.plain (OpenSpec.upto recordRoundTripSpec)) recordRoundTripUptoCard
end Rows
end Go.Proofs.YtlccalkikjfimaaDoor
