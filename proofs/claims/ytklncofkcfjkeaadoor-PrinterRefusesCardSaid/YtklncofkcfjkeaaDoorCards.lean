/-
  DERIVED. GIVEN WITH THE SEED: THE CARDS: each row of YtklncofkcfjkeaaDoorRows.lean that lists a variable, with what it lists TIED to the program's text (the seventh form; the later family's looks); each row that meets fmt, with fmt's text TOLD by the authors' own Lean function (tested against real Go, not proved from fmt's source: count such statements apart). THE CARD IS WHAT COUNTS. Prove the row's statement (the work); the ties are given (YtklncofkcfjkeaaDoorTie.lean); close each card by the builder's one call (the guide's Derived/Test/ToyasCard.lean, 'card_holds'). Laid BY PROGRAM, IN A SANDBOX (cutbox-door.mjs). By AI agents, Wed Nov 11 2026. No macro, syntax, notation, axiom, sorry.
-/
import Derived.Test.YtklncofkcfjkeaaDoorRows
import GoSem.ClaimSeven
namespace Go.Proofs.YtklncofkcfjkeaaDoor
namespace Rows

/-- THE TIED CARD OF 'asoflaw11.PrinterRefuses'. -/
def printerRefusesCard : Claim7 := { stood := { row := printerRefusesRow, standIns := [], harness := (true, "bfd207e4c9dccc8062c3391d97722ecfd074c076d81a71138bb6c80760df45d6"), looks := false }, kinds := [], alts := [], laidByText := true, laidKinds := [.data, .data, .data, .widerDeep, .widerDeep, .widerDeep], laidTests := true, laidLooks := .later }
def PrinterRefusesCardSaid : Prop := Claim7.holds Tryd.pinned (.plain (OpenSpec.ofChange printerRefusesSpec)) printerRefusesCard

/-- THE SECOND FORM's CARD OF 'asoflaw11.PrinterRefuses'. -/
def printerRefusesUptoCard : Claim7 := { stood := { row := printerRefusesUptoRow, standIns := [], harness := (true, "bfd207e4c9dccc8062c3391d97722ecfd074c076d81a71138bb6c80760df45d6"), looks := false }, kinds := [], alts := [], laidByText := true, laidKinds := [.data, .data, .data, .widerDeep, .widerDeep, .widerDeep], laidTests := true, laidLooks := .later }
def PrinterRefusesUptoCardSaid : Prop := Claim7.holds Tryd.pinned (.plain (OpenSpec.upto printerRefusesSpec)) printerRefusesUptoCard
end Rows
end Go.Proofs.YtklncofkcfjkeaaDoor
