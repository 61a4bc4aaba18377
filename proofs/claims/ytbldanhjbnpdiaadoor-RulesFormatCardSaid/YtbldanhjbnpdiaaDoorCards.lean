/-
  DERIVED. GIVEN WITH THE SEED: THE CARDS: each row of YtbldanhjbnpdiaaDoorRows.lean that lists a variable, with what it lists TIED to the program's text (the seventh form; the later family's looks); each row that meets fmt, with fmt's text TOLD by the authors' own Lean function (tested against real Go, not proved from fmt's source: count such statements apart). THE CARD IS WHAT COUNTS. Prove the row's statement (the work); the ties are given (YtbldanhjbnpdiaaDoorTie.lean); close each card by the builder's one call (the guide's Derived/Test/ToyasCard.lean, 'card_holds'). Laid BY PROGRAM, IN A SANDBOX (cutbox-door.mjs). By AI agents, Wed Nov 11 2026. No macro, syntax, notation, axiom, sorry.
-/
import Derived.Test.YtbldanhjbnpdiaaDoorRows
import GoSem.ClaimSeven
namespace Go.Proofs.YtbldanhjbnpdiaaDoor
namespace Rows

/-- THE TIED CARD OF 'airsharelaw9.RulesParse'. -/
def rulesParseCard : Claim7 := { stood := { row := rulesParseRow, standIns := [], harness := (true, "8abd63eb509b166fade42a9d6568479189affe580ac734bec1d2a43e3befd07b"), looks := true }, kinds := [], alts := [], laidByText := true, laidKinds := [.data, .data, .data, .data, .sentinel, .sentinel, .pinned], laidTests := true, laidLooks := .later }
def RulesParseCardSaid : Prop := Claim7.holds Tryd.pinned (.plain (OpenSpec.ofChange rulesParseSpec)) rulesParseCard

/-- THE TIED CARD OF 'airsharelaw9.RulesFormat'. -/
def rulesFormatCard : Claim7 := { stood := { row := rulesFormatRow, standIns := [], harness := (true, "8abd63eb509b166fade42a9d6568479189affe580ac734bec1d2a43e3befd07b"), looks := true }, kinds := [], alts := [], laidByText := true, laidKinds := [.data, .data, .data, .data, .sentinel, .sentinel, .pinned], laidTests := true, laidLooks := .later }
def RulesFormatCardSaid : Prop := Claim7.holds Tryd.pinned (.plain (OpenSpec.ofChange rulesFormatSpec)) rulesFormatCard

/-- THE SECOND FORM's CARD OF 'airsharelaw9.RulesParse'. -/
def rulesParseUptoCard : Claim7 := { stood := { row := rulesParseUptoRow, standIns := [], harness := (true, "8abd63eb509b166fade42a9d6568479189affe580ac734bec1d2a43e3befd07b"), looks := true }, kinds := [], alts := [], laidByText := true, laidKinds := [.data, .data, .data, .data, .sentinel, .sentinel, .pinned], laidTests := true, laidLooks := .later }
def RulesParseUptoCardSaid : Prop := Claim7.holds Tryd.pinned (.plain (OpenSpec.upto rulesParseSpec)) rulesParseUptoCard

/-- THE SECOND FORM's CARD OF 'airsharelaw9.RulesFormat'. -/
def rulesFormatUptoCard : Claim7 := { stood := { row := rulesFormatUptoRow, standIns := [], harness := (true, "8abd63eb509b166fade42a9d6568479189affe580ac734bec1d2a43e3befd07b"), looks := true }, kinds := [], alts := [], laidByText := true, laidKinds := [.data, .data, .data, .data, .sentinel, .sentinel, .pinned], laidTests := true, laidLooks := .later }
def RulesFormatUptoCardSaid : Prop := Claim7.holds Tryd.pinned (.plain (OpenSpec.upto rulesFormatSpec)) rulesFormatUptoCard
end Rows
end Go.Proofs.YtbldanhjbnpdiaaDoor
