/-
  DERIVED. GIVEN WITH THE SEED: THE CARDS: each row of YtdcpcffpapiadaaGreatDoorRows.lean that lists a variable, with what it lists TIED to the program's text (the seventh form; the later family's looks); each row that meets fmt, with fmt's text TOLD by the authors' own Lean function (tested against real Go, not proved from fmt's source: count such statements apart). THE CARD IS WHAT COUNTS. Prove the row's statement (the work); the ties are given (YtdcpcffpapiadaaGreatDoorTie.lean); close each card by the builder's one call (the guide's Derived/Test/ToyasCard.lean, 'card_holds'). Laid BY PROGRAM, IN A SANDBOX (cutbox-door.mjs). By AI agents, Wed Nov 11 2026. No macro, syntax, notation, axiom, sorry.
-/
import Derived.Test.YtdcpcffpapiadaaGreatDoorRows
import GoSem.ClaimSeven
namespace Go.Proofs.YtdcpcffpapiadaaGreatDoor
namespace Rows

/-- THE TIED CARD OF 'asoflaw09.ParserLarge'. -/
def parserLargeCard : Claim7 := { stood := { row := parserLargeRow, standIns := [], harness := (true, "76423096e73d39dfa473cfe6342f6749cbc65ada8e362117fc4b3dcaca5d36b5"), looks := true }, kinds := [], alts := [], laidByText := true, laidKinds := [.data, .data, .data, .data, .sentinel, .sentinel, .data, .pinned], laidTests := true, laidLooks := .later }
def ParserLargeCardSaid : Prop := Claim7.holds Tryz.pinned (.plain (OpenSpec.ofChange parserLargeSpec)) parserLargeCard

/-- THE TIED CARD OF 'asoflaw09.ParserItems'. -/
def parserItemsCard : Claim7 := { stood := { row := parserItemsRow, standIns := [], harness := (true, "76423096e73d39dfa473cfe6342f6749cbc65ada8e362117fc4b3dcaca5d36b5"), looks := true }, kinds := [], alts := [], laidByText := true, laidKinds := [.data, .data, .data, .data, .sentinel, .sentinel, .data, .pinned], laidTests := true, laidLooks := .later }
def ParserItemsCardSaid : Prop := Claim7.holds Tryz.pinned (.plain (OpenSpec.ofChange parserItemsSpec)) parserItemsCard

/-- THE TIED CARD OF 'asoflaw09.ParserRecovers'. -/
def parserRecoversCard : Claim7 := { stood := { row := parserRecoversRow, standIns := [], harness := (true, "76423096e73d39dfa473cfe6342f6749cbc65ada8e362117fc4b3dcaca5d36b5"), looks := true }, kinds := [], alts := [], laidByText := true, laidKinds := [.data, .data, .data, .data, .sentinel, .sentinel, .data, .pinned], laidTests := true, laidLooks := .later }
def ParserRecoversCardSaid : Prop := Claim7.holds Tryz.pinned (.plain (OpenSpec.ofChange parserRecoversSpec)) parserRecoversCard

/-- THE TIED CARD OF 'asoflaw09.ParserGroups'. -/
def parserGroupsCard : Claim7 := { stood := { row := parserGroupsRow, standIns := [], harness := (true, "76423096e73d39dfa473cfe6342f6749cbc65ada8e362117fc4b3dcaca5d36b5"), looks := true }, kinds := [], alts := [], laidByText := true, laidKinds := [.data, .data, .data, .data, .sentinel, .sentinel, .data, .pinned], laidTests := true, laidLooks := .later }
def ParserGroupsCardSaid : Prop := Claim7.holds Tryz.pinned (.plain (OpenSpec.ofChange parserGroupsSpec)) parserGroupsCard

/-- THE TIED CARD OF 'asoflaw09.ParserTokens'. -/
def parserTokensCard : Claim7 := { stood := { row := parserTokensRow, standIns := [], harness := (true, "76423096e73d39dfa473cfe6342f6749cbc65ada8e362117fc4b3dcaca5d36b5"), looks := true }, kinds := [], alts := [], laidByText := true, laidKinds := [.data, .data, .data, .data, .sentinel, .sentinel, .data, .pinned], laidTests := true, laidLooks := .later }
def ParserTokensCardSaid : Prop := Claim7.holds Tryz.pinned (.plain (OpenSpec.ofChange parserTokensSpec)) parserTokensCard

/-- THE TIED CARD OF 'asoflaw09.ParserUnits'. -/
def parserUnitsCard : Claim7 := { stood := { row := parserUnitsRow, standIns := [], harness := (true, "76423096e73d39dfa473cfe6342f6749cbc65ada8e362117fc4b3dcaca5d36b5"), looks := true }, kinds := [], alts := [], laidByText := true, laidKinds := [.data, .data, .data, .data, .sentinel, .sentinel, .data, .pinned], laidTests := true, laidLooks := .later }
def ParserUnitsCardSaid : Prop := Claim7.holds Tryz.pinned (.plain (OpenSpec.ofChange parserUnitsSpec)) parserUnitsCard

/-- THE SECOND FORM's CARD OF 'asoflaw09.ParserLarge'. -/
def parserLargeUptoCard : Claim7 := { stood := { row := parserLargeUptoRow, standIns := [], harness := (true, "76423096e73d39dfa473cfe6342f6749cbc65ada8e362117fc4b3dcaca5d36b5"), looks := true }, kinds := [], alts := [], laidByText := true, laidKinds := [.data, .data, .data, .data, .sentinel, .sentinel, .data, .pinned], laidTests := true, laidLooks := .later }
def ParserLargeUptoCardSaid : Prop := Claim7.holds Tryz.pinned (.plain (OpenSpec.upto parserLargeSpec)) parserLargeUptoCard

/-- THE SECOND FORM's CARD OF 'asoflaw09.ParserItems'. -/
def parserItemsUptoCard : Claim7 := { stood := { row := parserItemsUptoRow, standIns := [], harness := (true, "76423096e73d39dfa473cfe6342f6749cbc65ada8e362117fc4b3dcaca5d36b5"), looks := true }, kinds := [], alts := [], laidByText := true, laidKinds := [.data, .data, .data, .data, .sentinel, .sentinel, .data, .pinned], laidTests := true, laidLooks := .later }
def ParserItemsUptoCardSaid : Prop := Claim7.holds Tryz.pinned (.plain (OpenSpec.upto parserItemsSpec)) parserItemsUptoCard

/-- THE SECOND FORM's CARD OF 'asoflaw09.ParserRecovers'. -/
def parserRecoversUptoCard : Claim7 := { stood := { row := parserRecoversUptoRow, standIns := [], harness := (true, "76423096e73d39dfa473cfe6342f6749cbc65ada8e362117fc4b3dcaca5d36b5"), looks := true }, kinds := [], alts := [], laidByText := true, laidKinds := [.data, .data, .data, .data, .sentinel, .sentinel, .data, .pinned], laidTests := true, laidLooks := .later }
def ParserRecoversUptoCardSaid : Prop := Claim7.holds Tryz.pinned (.plain (OpenSpec.upto parserRecoversSpec)) parserRecoversUptoCard

/-- THE SECOND FORM's CARD OF 'asoflaw09.ParserGroups'. -/
def parserGroupsUptoCard : Claim7 := { stood := { row := parserGroupsUptoRow, standIns := [], harness := (true, "76423096e73d39dfa473cfe6342f6749cbc65ada8e362117fc4b3dcaca5d36b5"), looks := true }, kinds := [], alts := [], laidByText := true, laidKinds := [.data, .data, .data, .data, .sentinel, .sentinel, .data, .pinned], laidTests := true, laidLooks := .later }
def ParserGroupsUptoCardSaid : Prop := Claim7.holds Tryz.pinned (.plain (OpenSpec.upto parserGroupsSpec)) parserGroupsUptoCard

/-- THE SECOND FORM's CARD OF 'asoflaw09.ParserTokens'. -/
def parserTokensUptoCard : Claim7 := { stood := { row := parserTokensUptoRow, standIns := [], harness := (true, "76423096e73d39dfa473cfe6342f6749cbc65ada8e362117fc4b3dcaca5d36b5"), looks := true }, kinds := [], alts := [], laidByText := true, laidKinds := [.data, .data, .data, .data, .sentinel, .sentinel, .data, .pinned], laidTests := true, laidLooks := .later }
def ParserTokensUptoCardSaid : Prop := Claim7.holds Tryz.pinned (.plain (OpenSpec.upto parserTokensSpec)) parserTokensUptoCard

/-- THE SECOND FORM's CARD OF 'asoflaw09.ParserUnits'. -/
def parserUnitsUptoCard : Claim7 := { stood := { row := parserUnitsUptoRow, standIns := [], harness := (true, "76423096e73d39dfa473cfe6342f6749cbc65ada8e362117fc4b3dcaca5d36b5"), looks := true }, kinds := [], alts := [], laidByText := true, laidKinds := [.data, .data, .data, .data, .sentinel, .sentinel, .data, .pinned], laidTests := true, laidLooks := .later }
def ParserUnitsUptoCardSaid : Prop := Claim7.holds Tryz.pinned (.plain (OpenSpec.upto parserUnitsSpec)) parserUnitsUptoCard
end Rows
end Go.Proofs.YtdcpcffpapiadaaGreatDoor
