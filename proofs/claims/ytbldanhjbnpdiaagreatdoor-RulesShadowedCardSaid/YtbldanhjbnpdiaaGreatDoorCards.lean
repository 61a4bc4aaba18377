/-
  DERIVED. GIVEN WITH THE SEED: THE CARDS: each row of YtbldanhjbnpdiaaGreatDoorRows.lean that lists a variable, with what it lists TIED to the program's text (the seventh form; the later family's looks); each row that meets fmt, with fmt's text TOLD by the authors' own Lean function (tested against real Go, not proved from fmt's source: count such statements apart). THE CARD IS WHAT COUNTS. Prove the row's statement (the work); the ties are given (YtbldanhjbnpdiaaGreatDoorTie.lean); close each card by the builder's one call (the guide's Derived/Test/ToyasCard.lean, 'card_holds'). Laid BY PROGRAM, IN A SANDBOX (cutbox-door.mjs). By AI agents, Wed Nov 11 2026. No macro, syntax, notation, axiom, sorry.
-/
import Derived.Test.YtbldanhjbnpdiaaGreatDoorRows
import GoSem.ClaimSeven
namespace Go.Proofs.YtbldanhjbnpdiaaGreatDoor
namespace Rows

/-- THE TIED CARD OF 'airsharelaw9.RulesCover'. -/
def rulesCoverCard : Claim7 := { stood := { row := rulesCoverRow, standIns := [], harness := (true, "9864d9f12bd53df05adaa18382749227d77dcdcedabb8f955e2c1981e76c34f9"), looks := true }, kinds := [], alts := [], laidByText := true, laidKinds := [.data, .data, .data, .data, .sentinel, .sentinel, .pinned], laidTests := true, laidLooks := .later }
def RulesCoverCardSaid : Prop := Claim7.holds Tryz.pinned (.plain (OpenSpec.ofChange rulesCoverSpec)) rulesCoverCard

/-- THE TIED CARD OF 'airsharelaw9.RulesClassify'. -/
def rulesClassifyCard : Claim7 := { stood := { row := rulesClassifyRow, standIns := [], harness := (true, "9864d9f12bd53df05adaa18382749227d77dcdcedabb8f955e2c1981e76c34f9"), looks := true }, kinds := [], alts := [], laidByText := true, laidKinds := [.data, .data, .data, .data, .sentinel, .sentinel, .pinned], laidTests := true, laidLooks := .later }
def RulesClassifyCardSaid : Prop := Claim7.holds Tryz.pinned (.plain (OpenSpec.ofChange rulesClassifySpec)) rulesClassifyCard

/-- THE TIED CARD OF 'airsharelaw9.RulesShadowed'. -/
def rulesShadowedCard : Claim7 := { stood := { row := rulesShadowedRow, standIns := [], harness := (true, "9864d9f12bd53df05adaa18382749227d77dcdcedabb8f955e2c1981e76c34f9"), looks := true }, kinds := [], alts := [], laidByText := true, laidKinds := [.data, .data, .data, .data, .sentinel, .sentinel, .pinned], laidTests := true, laidLooks := .later }
def RulesShadowedCardSaid : Prop := Claim7.holds Tryz.pinned (.plain (OpenSpec.ofChange rulesShadowedSpec)) rulesShadowedCard

/-- THE SECOND FORM's CARD OF 'airsharelaw9.RulesCover'. -/
def rulesCoverUptoCard : Claim7 := { stood := { row := rulesCoverUptoRow, standIns := [], harness := (true, "9864d9f12bd53df05adaa18382749227d77dcdcedabb8f955e2c1981e76c34f9"), looks := true }, kinds := [], alts := [], laidByText := true, laidKinds := [.data, .data, .data, .data, .sentinel, .sentinel, .pinned], laidTests := true, laidLooks := .later }
def RulesCoverUptoCardSaid : Prop := Claim7.holds Tryz.pinned (.plain (OpenSpec.upto rulesCoverSpec)) rulesCoverUptoCard

/-- THE SECOND FORM's CARD OF 'airsharelaw9.RulesClassify'. -/
def rulesClassifyUptoCard : Claim7 := { stood := { row := rulesClassifyUptoRow, standIns := [], harness := (true, "9864d9f12bd53df05adaa18382749227d77dcdcedabb8f955e2c1981e76c34f9"), looks := true }, kinds := [], alts := [], laidByText := true, laidKinds := [.data, .data, .data, .data, .sentinel, .sentinel, .pinned], laidTests := true, laidLooks := .later }
def RulesClassifyUptoCardSaid : Prop := Claim7.holds Tryz.pinned (.plain (OpenSpec.upto rulesClassifySpec)) rulesClassifyUptoCard

/-- THE SECOND FORM's CARD OF 'airsharelaw9.RulesShadowed'. -/
def rulesShadowedUptoCard : Claim7 := { stood := { row := rulesShadowedUptoRow, standIns := [], harness := (true, "9864d9f12bd53df05adaa18382749227d77dcdcedabb8f955e2c1981e76c34f9"), looks := true }, kinds := [], alts := [], laidByText := true, laidKinds := [.data, .data, .data, .data, .sentinel, .sentinel, .pinned], laidTests := true, laidLooks := .later }
def RulesShadowedUptoCardSaid : Prop := Claim7.holds Tryz.pinned (.plain (OpenSpec.upto rulesShadowedSpec)) rulesShadowedUptoCard
end Rows
end Go.Proofs.YtbldanhjbnpdiaaGreatDoor
