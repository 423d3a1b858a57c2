/-
  DERIVED. GIVEN WITH THE SEED: THE CARDS: each row of YtklncofkcfjkeaaGreatDoorRows.lean that lists a variable, with what it lists TIED to the program's text (the seventh form; the later family's looks); each row that meets fmt, with fmt's text TOLD by the authors' own Lean function (tested against real Go, not proved from fmt's source: count such statements apart). THE CARD IS WHAT COUNTS. Prove the row's statement (the work); the ties are given (YtklncofkcfjkeaaGreatDoorTie.lean); close each card by the builder's one call (the guide's Derived/Test/ToyasCard.lean, 'card_holds'). Laid BY PROGRAM, IN A SANDBOX (cutbox-door.mjs). By AI agents, Wed Nov 11 2026. No macro, syntax, notation, axiom, sorry.
-/
import Derived.Test.YtklncofkcfjkeaaGreatDoorRows
import GoSem.ClaimSeven
namespace Go.Proofs.YtklncofkcfjkeaaGreatDoor
namespace Rows

/-- THE TIED CARD OF 'asoflaw11.PrinterOne'. -/
def printerOneCard : Claim7 := { stood := { row := printerOneRow, standIns := [], harness := (true, "8f0f5f3c22a07484227184794f007d06d9061691df694ec29692225a2349b994"), looks := false }, kinds := [], alts := [], laidByText := true, laidKinds := [.data, .data, .data, .widerDeep, .widerDeep, .widerDeep], laidTests := true, laidLooks := .later }
def PrinterOneCardSaid : Prop := Claim7.holds Tryz.pinned (.plain (OpenSpec.ofChange printerOneSpec)) printerOneCard

/-- THE TIED CARD OF 'asoflaw11.PrinterExprs'. -/
def printerExprsCard : Claim7 := { stood := { row := printerExprsRow, standIns := [], harness := (true, "8f0f5f3c22a07484227184794f007d06d9061691df694ec29692225a2349b994"), looks := false }, kinds := [], alts := [], laidByText := true, laidKinds := [.data, .data, .data, .widerDeep, .widerDeep, .widerDeep], laidTests := true, laidLooks := .later }
def PrinterExprsCardSaid : Prop := Claim7.holds Tryz.pinned (.plain (OpenSpec.ofChange printerExprsSpec)) printerExprsCard

/-- THE TIED CARD OF 'asoflaw11.PrinterItems'. -/
def printerItemsCard : Claim7 := { stood := { row := printerItemsRow, standIns := [], harness := (true, "8f0f5f3c22a07484227184794f007d06d9061691df694ec29692225a2349b994"), looks := false }, kinds := [], alts := [], laidByText := true, laidKinds := [.data, .data, .data, .widerDeep, .widerDeep, .widerDeep], laidTests := true, laidLooks := .later }
def PrinterItemsCardSaid : Prop := Claim7.holds Tryz.pinned (.plain (OpenSpec.ofChange printerItemsSpec)) printerItemsCard

/-- THE SECOND FORM's CARD OF 'asoflaw11.PrinterOne'. -/
def printerOneUptoCard : Claim7 := { stood := { row := printerOneUptoRow, standIns := [], harness := (true, "8f0f5f3c22a07484227184794f007d06d9061691df694ec29692225a2349b994"), looks := false }, kinds := [], alts := [], laidByText := true, laidKinds := [.data, .data, .data, .widerDeep, .widerDeep, .widerDeep], laidTests := true, laidLooks := .later }
def PrinterOneUptoCardSaid : Prop := Claim7.holds Tryz.pinned (.plain (OpenSpec.upto printerOneSpec)) printerOneUptoCard

/-- THE SECOND FORM's CARD OF 'asoflaw11.PrinterExprs'. -/
def printerExprsUptoCard : Claim7 := { stood := { row := printerExprsUptoRow, standIns := [], harness := (true, "8f0f5f3c22a07484227184794f007d06d9061691df694ec29692225a2349b994"), looks := false }, kinds := [], alts := [], laidByText := true, laidKinds := [.data, .data, .data, .widerDeep, .widerDeep, .widerDeep], laidTests := true, laidLooks := .later }
def PrinterExprsUptoCardSaid : Prop := Claim7.holds Tryz.pinned (.plain (OpenSpec.upto printerExprsSpec)) printerExprsUptoCard

/-- THE SECOND FORM's CARD OF 'asoflaw11.PrinterItems'. -/
def printerItemsUptoCard : Claim7 := { stood := { row := printerItemsUptoRow, standIns := [], harness := (true, "8f0f5f3c22a07484227184794f007d06d9061691df694ec29692225a2349b994"), looks := false }, kinds := [], alts := [], laidByText := true, laidKinds := [.data, .data, .data, .widerDeep, .widerDeep, .widerDeep], laidTests := true, laidLooks := .later }
def PrinterItemsUptoCardSaid : Prop := Claim7.holds Tryz.pinned (.plain (OpenSpec.upto printerItemsSpec)) printerItemsUptoCard
end Rows
end Go.Proofs.YtklncofkcfjkeaaGreatDoor
