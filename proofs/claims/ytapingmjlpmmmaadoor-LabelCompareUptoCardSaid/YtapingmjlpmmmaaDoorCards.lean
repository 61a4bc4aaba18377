/-
  DERIVED. GIVEN WITH THE SEED: THE CARDS: each row of YtapingmjlpmmmaaDoorRows.lean that lists a variable, with what it lists TIED to the program's text (the seventh form; the later family's looks); each row that meets fmt, with fmt's text TOLD by the authors' own Lean function (tested against real Go, not proved from fmt's source: count such statements apart). THE CARD IS WHAT COUNTS. Prove the row's statement (the work); the ties are given (YtapingmjlpmmmaaDoorTie.lean); close each card by the builder's one call (the guide's Derived/Test/ToyasCard.lean, 'card_holds'). Laid BY PROGRAM, IN A SANDBOX (cutbox-door.mjs). By AI agents, Wed Nov 11 2026. No macro, syntax, notation, axiom, sorry.
-/
import Derived.Test.YtapingmjlpmmmaaDoorRows
import GoSem.ClaimSeven
namespace Go.Proofs.YtapingmjlpmmmaaDoor
namespace Rows

/-- THE TIED CARD OF 'airsharelaw7.LabelValid'. -/
def labelValidCard : Claim7 := { stood := { row := labelValidRow, standIns := [], harness := (true, "872a60ae4ddd7a430ea3e725032a16cc3e02c007c525a3a1ca10cfcdd33487fa"), looks := false }, kinds := [], alts := [], laidByText := true, laidKinds := [.data, .pinned], laidTests := true, laidLooks := .later }
def LabelValidCardSaid : Prop := Claim7.holds Tryd.pinned (.plain (OpenSpec.ofChange labelValidSpec)) labelValidCard

/-- THE TIED CARD OF 'airsharelaw7.LabelRunes'. -/
def labelRunesCard : Claim7 := { stood := { row := labelRunesRow, standIns := [], harness := (true, "872a60ae4ddd7a430ea3e725032a16cc3e02c007c525a3a1ca10cfcdd33487fa"), looks := false }, kinds := [], alts := [], laidByText := true, laidKinds := [.data, .pinned], laidTests := true, laidLooks := .later }
def LabelRunesCardSaid : Prop := Claim7.holds Tryd.pinned (.plain (OpenSpec.ofChange labelRunesSpec)) labelRunesCard

/-- THE TIED CARD OF 'airsharelaw7.LabelMatch'. -/
def labelMatchCard : Claim7 := { stood := { row := labelMatchRow, standIns := [], harness := (true, "872a60ae4ddd7a430ea3e725032a16cc3e02c007c525a3a1ca10cfcdd33487fa"), looks := false }, kinds := [], alts := [], laidByText := true, laidKinds := [.data, .pinned], laidTests := true, laidLooks := .later }
def LabelMatchCardSaid : Prop := Claim7.holds Tryd.pinned (.plain (OpenSpec.ofChange labelMatchSpec)) labelMatchCard

/-- THE TIED CARD OF 'airsharelaw7.LabelMatches'. -/
def labelMatchesCard : Claim7 := { stood := { row := labelMatchesRow, standIns := [], harness := (true, "872a60ae4ddd7a430ea3e725032a16cc3e02c007c525a3a1ca10cfcdd33487fa"), looks := false }, kinds := [], alts := [], laidByText := true, laidKinds := [.data, .pinned], laidTests := true, laidLooks := .later }
def LabelMatchesCardSaid : Prop := Claim7.holds Tryd.pinned (.plain (OpenSpec.ofChange labelMatchesSpec)) labelMatchesCard

/-- THE TIED CARD OF 'airsharelaw7.LabelCompare'. -/
def labelCompareCard : Claim7 := { stood := { row := labelCompareRow, standIns := [], harness := (true, "872a60ae4ddd7a430ea3e725032a16cc3e02c007c525a3a1ca10cfcdd33487fa"), looks := false }, kinds := [], alts := [], laidByText := true, laidKinds := [.data, .pinned], laidTests := true, laidLooks := .later }
def LabelCompareCardSaid : Prop := Claim7.holds Tryd.pinned (.plain (OpenSpec.ofChange labelCompareSpec)) labelCompareCard

/-- THE TIED CARD OF 'airsharelaw7.LabelOrder'. -/
def labelOrderCard : Claim7 := { stood := { row := labelOrderRow, standIns := [], harness := (true, "872a60ae4ddd7a430ea3e725032a16cc3e02c007c525a3a1ca10cfcdd33487fa"), looks := false }, kinds := [], alts := [], laidByText := true, laidKinds := [.data, .pinned], laidTests := true, laidLooks := .later }
def LabelOrderCardSaid : Prop := Claim7.holds Tryd.pinned (.plain (OpenSpec.ofChange labelOrderSpec)) labelOrderCard

/-- THE SECOND FORM's CARD OF 'airsharelaw7.LabelValid'. -/
def labelValidUptoCard : Claim7 := { stood := { row := labelValidUptoRow, standIns := [], harness := (true, "872a60ae4ddd7a430ea3e725032a16cc3e02c007c525a3a1ca10cfcdd33487fa"), looks := false }, kinds := [], alts := [], laidByText := true, laidKinds := [.data, .pinned], laidTests := true, laidLooks := .later }
def LabelValidUptoCardSaid : Prop := Claim7.holds Tryd.pinned (.plain (OpenSpec.upto labelValidSpec)) labelValidUptoCard

/-- THE SECOND FORM's CARD OF 'airsharelaw7.LabelRunes'. -/
def labelRunesUptoCard : Claim7 := { stood := { row := labelRunesUptoRow, standIns := [], harness := (true, "872a60ae4ddd7a430ea3e725032a16cc3e02c007c525a3a1ca10cfcdd33487fa"), looks := false }, kinds := [], alts := [], laidByText := true, laidKinds := [.data, .pinned], laidTests := true, laidLooks := .later }
def LabelRunesUptoCardSaid : Prop := Claim7.holds Tryd.pinned (.plain (OpenSpec.upto labelRunesSpec)) labelRunesUptoCard

/-- THE SECOND FORM's CARD OF 'airsharelaw7.LabelMatch'. -/
def labelMatchUptoCard : Claim7 := { stood := { row := labelMatchUptoRow, standIns := [], harness := (true, "872a60ae4ddd7a430ea3e725032a16cc3e02c007c525a3a1ca10cfcdd33487fa"), looks := false }, kinds := [], alts := [], laidByText := true, laidKinds := [.data, .pinned], laidTests := true, laidLooks := .later }
def LabelMatchUptoCardSaid : Prop := Claim7.holds Tryd.pinned (.plain (OpenSpec.upto labelMatchSpec)) labelMatchUptoCard

/-- THE SECOND FORM's CARD OF 'airsharelaw7.LabelMatches'. -/
def labelMatchesUptoCard : Claim7 := { stood := { row := labelMatchesUptoRow, standIns := [], harness := (true, "872a60ae4ddd7a430ea3e725032a16cc3e02c007c525a3a1ca10cfcdd33487fa"), looks := false }, kinds := [], alts := [], laidByText := true, laidKinds := [.data, .pinned], laidTests := true, laidLooks := .later }
def LabelMatchesUptoCardSaid : Prop := Claim7.holds Tryd.pinned (.plain (OpenSpec.upto labelMatchesSpec)) labelMatchesUptoCard

/-- THE SECOND FORM's CARD OF 'airsharelaw7.LabelCompare'. -/
def labelCompareUptoCard : Claim7 := { stood := { row := labelCompareUptoRow, standIns := [], harness := (true, "872a60ae4ddd7a430ea3e725032a16cc3e02c007c525a3a1ca10cfcdd33487fa"), looks := false }, kinds := [], alts := [], laidByText := true, laidKinds := [.data, .pinned], laidTests := true, laidLooks := .later }
def LabelCompareUptoCardSaid : Prop := Claim7.holds Tryd.pinned (.plain (OpenSpec.upto labelCompareSpec)) labelCompareUptoCard

/-- THE SECOND FORM's CARD OF 'airsharelaw7.LabelOrder'. -/
def labelOrderUptoCard : Claim7 := { stood := { row := labelOrderUptoRow, standIns := [], harness := (true, "872a60ae4ddd7a430ea3e725032a16cc3e02c007c525a3a1ca10cfcdd33487fa"), looks := false }, kinds := [], alts := [], laidByText := true, laidKinds := [.data, .pinned], laidTests := true, laidLooks := .later }
def LabelOrderUptoCardSaid : Prop := Claim7.holds Tryd.pinned (.plain (OpenSpec.upto labelOrderSpec)) labelOrderUptoCard
end Rows
end Go.Proofs.YtapingmjlpmmmaaDoor
