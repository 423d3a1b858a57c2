/-
  DERIVED. GIVEN WITH THE SEED: THE CARDS: each row of YthdeaajdmdmfnaaGreatDoorRows.lean that lists a variable, with what it lists TIED to the program's text (the seventh form; the later family's looks); each row that meets fmt, with fmt's text TOLD by the authors' own Lean function (tested against real Go, not proved from fmt's source: count such statements apart). THE CARD IS WHAT COUNTS. Prove the row's statement (the work); the ties are given (YthdeaajdmdmfnaaGreatDoorTie.lean); close each card by the builder's one call (the guide's Derived/Test/ToyasCard.lean, 'card_holds'). Laid BY PROGRAM, IN A SANDBOX (cutbox-door.mjs). By AI agents, Wed Nov 11 2026. No macro, syntax, notation, axiom, sorry.
-/
import Derived.Test.YthdeaajdmdmfnaaGreatDoorRows
import GoSem.ClaimSeven
namespace Go.Proofs.YthdeaajdmdmfnaaGreatDoor
namespace Rows

/-- THE TIED CARD OF 'asoflaw14.ChangesPublish'. -/
def changesPublishCard : Claim7 := { stood := { row := changesPublishRow, standIns := [], harness := (true, "603ccfc04066c15691ec17b7b7139a974c46c7e9c781e7db32df80177a62bb64"), looks := true }, kinds := [], alts := [], laidByText := true, laidKinds := [.data, .data, .data, .data, .sentinel, .sentinel, .data, .widerDeep, .widerDeep, .widerDeep, .pinned], laidTests := true, laidLooks := .later }
def ChangesPublishCardSaid : Prop := Claim7.holds Tryz.pinned (.plain (OpenSpec.ofChange changesPublishSpec)) changesPublishCard

/-- THE TIED CARD OF 'asoflaw14.ChangesPrefix'. -/
def changesPrefixCard : Claim7 := { stood := { row := changesPrefixRow, standIns := [], harness := (true, "603ccfc04066c15691ec17b7b7139a974c46c7e9c781e7db32df80177a62bb64"), looks := true }, kinds := [], alts := [], laidByText := true, laidKinds := [.data, .data, .data, .data, .sentinel, .sentinel, .data, .widerDeep, .widerDeep, .widerDeep, .pinned], laidTests := true, laidLooks := .later }
def ChangesPrefixCardSaid : Prop := Claim7.holds Tryz.pinned (.plain (OpenSpec.ofChange changesPrefixSpec)) changesPrefixCard

/-- THE SECOND FORM's CARD OF 'asoflaw14.ChangesPublish'. -/
def changesPublishUptoCard : Claim7 := { stood := { row := changesPublishUptoRow, standIns := [], harness := (true, "603ccfc04066c15691ec17b7b7139a974c46c7e9c781e7db32df80177a62bb64"), looks := true }, kinds := [], alts := [], laidByText := true, laidKinds := [.data, .data, .data, .data, .sentinel, .sentinel, .data, .widerDeep, .widerDeep, .widerDeep, .pinned], laidTests := true, laidLooks := .later }
def ChangesPublishUptoCardSaid : Prop := Claim7.holds Tryz.pinned (.plain (OpenSpec.upto changesPublishSpec)) changesPublishUptoCard

/-- THE SECOND FORM's CARD OF 'asoflaw14.ChangesPrefix'. -/
def changesPrefixUptoCard : Claim7 := { stood := { row := changesPrefixUptoRow, standIns := [], harness := (true, "603ccfc04066c15691ec17b7b7139a974c46c7e9c781e7db32df80177a62bb64"), looks := true }, kinds := [], alts := [], laidByText := true, laidKinds := [.data, .data, .data, .data, .sentinel, .sentinel, .data, .widerDeep, .widerDeep, .widerDeep, .pinned], laidTests := true, laidLooks := .later }
def ChangesPrefixUptoCardSaid : Prop := Claim7.holds Tryz.pinned (.plain (OpenSpec.upto changesPrefixSpec)) changesPrefixUptoCard
end Rows
end Go.Proofs.YthdeaajdmdmfnaaGreatDoor
