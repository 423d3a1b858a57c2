/-
  DERIVED. GIVEN WITH THE SEED: THE CARDS: each row of YtbihckigennlhaaGreatDoorRows.lean that lists a variable, with what it lists TIED to the program's text (the seventh form; the later family's looks); each row that meets fmt, with fmt's text TOLD by the authors' own Lean function (tested against real Go, not proved from fmt's source: count such statements apart). THE CARD IS WHAT COUNTS. Prove the row's statement (the work); the ties are given (YtbihckigennlhaaGreatDoorTie.lean); close each card by the builder's one call (the guide's Derived/Test/ToyasCard.lean, 'card_holds'). Laid BY PROGRAM, IN A SANDBOX (cutbox-door.mjs). By AI agents, Wed Nov 11 2026. No macro, syntax, notation, axiom, sorry.
-/
import Derived.Test.YtbihckigennlhaaGreatDoorRows
import GoSem.ClaimSeven
namespace Go.Proofs.YtbihckigennlhaaGreatDoor
namespace Rows

/-- THE TIED CARD OF 'asoflaw11.PrinterFixed'. -/
def printerFixedCard : Claim7 := { stood := { row := printerFixedRow, standIns := [], harness := (true, "9bbb2b265c9095fb024a6f7af3f615d2b77b12f92beeb079863c98bda919d8a4"), looks := true }, kinds := [], alts := [], laidByText := true, laidKinds := [.data, .data, .data, .data, .sentinel, .sentinel, .data, .widerDeep, .widerDeep, .widerDeep, .pinned], laidTests := true, laidLooks := .later }
def PrinterFixedCardSaid : Prop := Claim7.holds Tryz.pinned (.plain (OpenSpec.ofChange printerFixedSpec)) printerFixedCard

/-- THE TIED CARD OF 'asoflaw11.PrinterTokens'. -/
def printerTokensCard : Claim7 := { stood := { row := printerTokensRow, standIns := [], harness := (true, "9bbb2b265c9095fb024a6f7af3f615d2b77b12f92beeb079863c98bda919d8a4"), looks := true }, kinds := [], alts := [], laidByText := true, laidKinds := [.data, .data, .data, .data, .sentinel, .sentinel, .data, .widerDeep, .widerDeep, .widerDeep, .pinned], laidTests := true, laidLooks := .later }
def PrinterTokensCardSaid : Prop := Claim7.holds Tryz.pinned (.plain (OpenSpec.ofChange printerTokensSpec)) printerTokensCard

/-- THE TIED CARD OF 'asoflaw11.PrinterParens'. -/
def printerParensCard : Claim7 := { stood := { row := printerParensRow, standIns := [], harness := (true, "9bbb2b265c9095fb024a6f7af3f615d2b77b12f92beeb079863c98bda919d8a4"), looks := true }, kinds := [], alts := [], laidByText := true, laidKinds := [.data, .data, .data, .data, .sentinel, .sentinel, .data, .widerDeep, .widerDeep, .widerDeep, .pinned], laidTests := true, laidLooks := .later }
def PrinterParensCardSaid : Prop := Claim7.holds Tryz.pinned (.plain (OpenSpec.ofChange printerParensSpec)) printerParensCard

/-- THE TIED CARD OF 'asoflaw11.PrinterBack'. -/
def printerBackCard : Claim7 := { stood := { row := printerBackRow, standIns := [], harness := (true, "9bbb2b265c9095fb024a6f7af3f615d2b77b12f92beeb079863c98bda919d8a4"), looks := true }, kinds := [], alts := [], laidByText := true, laidKinds := [.data, .data, .data, .data, .sentinel, .sentinel, .data, .widerDeep, .widerDeep, .widerDeep, .pinned], laidTests := true, laidLooks := .later }
def PrinterBackCardSaid : Prop := Claim7.holds Tryz.pinned (.plain (OpenSpec.ofChange printerBackSpec)) printerBackCard

/-- THE TIED CARD OF 'asoflaw11.PrinterModules'. -/
def printerModulesCard : Claim7 := { stood := { row := printerModulesRow, standIns := [], harness := (true, "9bbb2b265c9095fb024a6f7af3f615d2b77b12f92beeb079863c98bda919d8a4"), looks := true }, kinds := [], alts := [], laidByText := true, laidKinds := [.data, .data, .data, .data, .sentinel, .sentinel, .data, .widerDeep, .widerDeep, .widerDeep, .pinned], laidTests := true, laidLooks := .later }
def PrinterModulesCardSaid : Prop := Claim7.holds Tryz.pinned (.plain (OpenSpec.ofChange printerModulesSpec)) printerModulesCard

/-- THE SECOND FORM's CARD OF 'asoflaw11.PrinterFixed'. -/
def printerFixedUptoCard : Claim7 := { stood := { row := printerFixedUptoRow, standIns := [], harness := (true, "9bbb2b265c9095fb024a6f7af3f615d2b77b12f92beeb079863c98bda919d8a4"), looks := true }, kinds := [], alts := [], laidByText := true, laidKinds := [.data, .data, .data, .data, .sentinel, .sentinel, .data, .widerDeep, .widerDeep, .widerDeep, .pinned], laidTests := true, laidLooks := .later }
def PrinterFixedUptoCardSaid : Prop := Claim7.holds Tryz.pinned (.plain (OpenSpec.upto printerFixedSpec)) printerFixedUptoCard

/-- THE SECOND FORM's CARD OF 'asoflaw11.PrinterTokens'. -/
def printerTokensUptoCard : Claim7 := { stood := { row := printerTokensUptoRow, standIns := [], harness := (true, "9bbb2b265c9095fb024a6f7af3f615d2b77b12f92beeb079863c98bda919d8a4"), looks := true }, kinds := [], alts := [], laidByText := true, laidKinds := [.data, .data, .data, .data, .sentinel, .sentinel, .data, .widerDeep, .widerDeep, .widerDeep, .pinned], laidTests := true, laidLooks := .later }
def PrinterTokensUptoCardSaid : Prop := Claim7.holds Tryz.pinned (.plain (OpenSpec.upto printerTokensSpec)) printerTokensUptoCard

/-- THE SECOND FORM's CARD OF 'asoflaw11.PrinterParens'. -/
def printerParensUptoCard : Claim7 := { stood := { row := printerParensUptoRow, standIns := [], harness := (true, "9bbb2b265c9095fb024a6f7af3f615d2b77b12f92beeb079863c98bda919d8a4"), looks := true }, kinds := [], alts := [], laidByText := true, laidKinds := [.data, .data, .data, .data, .sentinel, .sentinel, .data, .widerDeep, .widerDeep, .widerDeep, .pinned], laidTests := true, laidLooks := .later }
def PrinterParensUptoCardSaid : Prop := Claim7.holds Tryz.pinned (.plain (OpenSpec.upto printerParensSpec)) printerParensUptoCard

/-- THE SECOND FORM's CARD OF 'asoflaw11.PrinterBack'. -/
def printerBackUptoCard : Claim7 := { stood := { row := printerBackUptoRow, standIns := [], harness := (true, "9bbb2b265c9095fb024a6f7af3f615d2b77b12f92beeb079863c98bda919d8a4"), looks := true }, kinds := [], alts := [], laidByText := true, laidKinds := [.data, .data, .data, .data, .sentinel, .sentinel, .data, .widerDeep, .widerDeep, .widerDeep, .pinned], laidTests := true, laidLooks := .later }
def PrinterBackUptoCardSaid : Prop := Claim7.holds Tryz.pinned (.plain (OpenSpec.upto printerBackSpec)) printerBackUptoCard

/-- THE SECOND FORM's CARD OF 'asoflaw11.PrinterModules'. -/
def printerModulesUptoCard : Claim7 := { stood := { row := printerModulesUptoRow, standIns := [], harness := (true, "9bbb2b265c9095fb024a6f7af3f615d2b77b12f92beeb079863c98bda919d8a4"), looks := true }, kinds := [], alts := [], laidByText := true, laidKinds := [.data, .data, .data, .data, .sentinel, .sentinel, .data, .widerDeep, .widerDeep, .widerDeep, .pinned], laidTests := true, laidLooks := .later }
def PrinterModulesUptoCardSaid : Prop := Claim7.holds Tryz.pinned (.plain (OpenSpec.upto printerModulesSpec)) printerModulesUptoCard
end Rows
end Go.Proofs.YtbihckigennlhaaGreatDoor
