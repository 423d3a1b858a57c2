/-
  DERIVED. GIVEN WITH THE SEED: THE CARDS: each row of YtcccbdelfhgmlaaGreatDoorRows.lean that lists a variable, with what it lists TIED to the program's text (the seventh form; the later family's looks); each row that meets fmt, with fmt's text TOLD by the authors' own Lean function (tested against real Go, not proved from fmt's source: count such statements apart). THE CARD IS WHAT COUNTS. Prove the row's statement (the work); the ties are given (YtcccbdelfhgmlaaGreatDoorTie.lean); close each card by the builder's one call (the guide's Derived/Test/ToyasCard.lean, 'card_holds'). Laid BY PROGRAM, IN A SANDBOX (cutbox-door.mjs). By AI agents, Wed Nov 11 2026. No macro, syntax, notation, axiom, sorry.
-/
import Derived.Test.YtcccbdelfhgmlaaGreatDoorRows
import GoSem.ClaimSeven
namespace Go.Proofs.YtcccbdelfhgmlaaGreatDoor
namespace Rows

/-- THE TIED CARD OF 'asoflaw12.CatalogPrinted'. -/
def catalogPrintedCard : Claim7 := { stood := { row := catalogPrintedRow, standIns := [], harness := (true, "44609502ce8d2f39b8e63220b6e47ade8acc29cf7c765697ecba463c9bbc7d0b"), looks := true }, kinds := [], alts := [], laidByText := true, laidKinds := [.data, .data, .data, .data, .sentinel, .sentinel, .data, .widerDeep, .widerDeep, .widerDeep, .pinned], laidTests := true, laidLooks := .later }
def CatalogPrintedCardSaid : Prop := Claim7.holds Tryz.pinned (.plain (OpenSpec.ofChange catalogPrintedSpec)) catalogPrintedCard

/-- THE SECOND FORM's CARD OF 'asoflaw12.CatalogPrinted'. -/
def catalogPrintedUptoCard : Claim7 := { stood := { row := catalogPrintedUptoRow, standIns := [], harness := (true, "44609502ce8d2f39b8e63220b6e47ade8acc29cf7c765697ecba463c9bbc7d0b"), looks := true }, kinds := [], alts := [], laidByText := true, laidKinds := [.data, .data, .data, .data, .sentinel, .sentinel, .data, .widerDeep, .widerDeep, .widerDeep, .pinned], laidTests := true, laidLooks := .later }
def CatalogPrintedUptoCardSaid : Prop := Claim7.holds Tryz.pinned (.plain (OpenSpec.upto catalogPrintedSpec)) catalogPrintedUptoCard
end Rows
end Go.Proofs.YtcccbdelfhgmlaaGreatDoor
