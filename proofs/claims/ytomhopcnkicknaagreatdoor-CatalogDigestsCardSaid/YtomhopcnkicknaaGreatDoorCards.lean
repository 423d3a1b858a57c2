/-
  DERIVED. GIVEN WITH THE SEED: THE CARDS: each row of YtomhopcnkicknaaGreatDoorRows.lean that lists a variable, with what it lists TIED to the program's text (the seventh form; the later family's looks); each row that meets fmt, with fmt's text TOLD by the authors' own Lean function (tested against real Go, not proved from fmt's source: count such statements apart). THE CARD IS WHAT COUNTS. Prove the row's statement (the work); the ties are given (YtomhopcnkicknaaGreatDoorTie.lean); close each card by the builder's one call (the guide's Derived/Test/ToyasCard.lean, 'card_holds'). Laid BY PROGRAM, IN A SANDBOX (cutbox-door.mjs). By AI agents, Wed Nov 11 2026. No macro, syntax, notation, axiom, sorry.
-/
import Derived.Test.YtomhopcnkicknaaGreatDoorRows
import GoSem.ClaimSeven
namespace Go.Proofs.YtomhopcnkicknaaGreatDoor
namespace Rows

/-- THE TIED CARD OF 'asoflaw12.CatalogDigests'. -/
def catalogDigestsCard : Claim7 := { stood := { row := catalogDigestsRow, standIns := [], harness := (true, "504de60d779c155e5326b46a42f508a2f2f631d69df9dd71226de33e132491fe"), looks := false }, kinds := [], alts := [], laidByText := true, laidKinds := [.data, .data, .data, .widerDeep, .widerDeep, .widerDeep], laidTests := true, laidLooks := .later }
def CatalogDigestsCardSaid : Prop := Claim7.holds Tryz.pinned (.plain (OpenSpec.ofChange catalogDigestsSpec)) catalogDigestsCard

/-- THE SECOND FORM's CARD OF 'asoflaw12.CatalogDigests'. -/
def catalogDigestsUptoCard : Claim7 := { stood := { row := catalogDigestsUptoRow, standIns := [], harness := (true, "504de60d779c155e5326b46a42f508a2f2f631d69df9dd71226de33e132491fe"), looks := false }, kinds := [], alts := [], laidByText := true, laidKinds := [.data, .data, .data, .widerDeep, .widerDeep, .widerDeep], laidTests := true, laidLooks := .later }
def CatalogDigestsUptoCardSaid : Prop := Claim7.holds Tryz.pinned (.plain (OpenSpec.upto catalogDigestsSpec)) catalogDigestsUptoCard
end Rows
end Go.Proofs.YtomhopcnkicknaaGreatDoor
