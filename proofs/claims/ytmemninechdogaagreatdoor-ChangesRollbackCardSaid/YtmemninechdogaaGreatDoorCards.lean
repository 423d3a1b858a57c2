/-
  DERIVED. GIVEN WITH THE SEED: THE CARDS: each row of YtmemninechdogaaGreatDoorRows.lean that lists a variable, with what it lists TIED to the program's text (the seventh form; the later family's looks); each row that meets fmt, with fmt's text TOLD by the authors' own Lean function (tested against real Go, not proved from fmt's source: count such statements apart). THE CARD IS WHAT COUNTS. Prove the row's statement (the work); the ties are given (YtmemninechdogaaGreatDoorTie.lean); close each card by the builder's one call (the guide's Derived/Test/ToyasCard.lean, 'card_holds'). Laid BY PROGRAM, IN A SANDBOX (cutbox-door.mjs). By AI agents, Wed Nov 11 2026. No macro, syntax, notation, axiom, sorry.
-/
import Derived.Test.YtmemninechdogaaGreatDoorRows
import GoSem.ClaimSeven
namespace Go.Proofs.YtmemninechdogaaGreatDoor
namespace Rows

/-- THE TIED CARD OF 'asoflaw14.ChangesPublish'. -/
def changesPublishCard : Claim7 := { stood := { row := changesPublishRow, standIns := [], harness := (true, "975332afdfa964b6d363ecfb09c835b67c91d5452ebe5531a4cda29b5d805356"), looks := true }, kinds := [], alts := [], laidByText := true, laidKinds := [.data, .data, .data, .data, .sentinel, .sentinel, .data, .widerDeep, .widerDeep, .widerDeep, .pinned], laidTests := true, laidLooks := .later }
def ChangesPublishCardSaid : Prop := Claim7.holds Tryz.pinned (.plain (OpenSpec.ofChange changesPublishSpec)) changesPublishCard

/-- THE TIED CARD OF 'asoflaw14.ChangesRollback'. -/
def changesRollbackCard : Claim7 := { stood := { row := changesRollbackRow, standIns := [], harness := (true, "975332afdfa964b6d363ecfb09c835b67c91d5452ebe5531a4cda29b5d805356"), looks := true }, kinds := [], alts := [], laidByText := true, laidKinds := [.data, .data, .data, .data, .sentinel, .sentinel, .data, .widerDeep, .widerDeep, .widerDeep, .pinned], laidTests := true, laidLooks := .later }
def ChangesRollbackCardSaid : Prop := Claim7.holds Tryz.pinned (.plain (OpenSpec.ofChange changesRollbackSpec)) changesRollbackCard

/-- THE SECOND FORM's CARD OF 'asoflaw14.ChangesPublish'. -/
def changesPublishUptoCard : Claim7 := { stood := { row := changesPublishUptoRow, standIns := [], harness := (true, "975332afdfa964b6d363ecfb09c835b67c91d5452ebe5531a4cda29b5d805356"), looks := true }, kinds := [], alts := [], laidByText := true, laidKinds := [.data, .data, .data, .data, .sentinel, .sentinel, .data, .widerDeep, .widerDeep, .widerDeep, .pinned], laidTests := true, laidLooks := .later }
def ChangesPublishUptoCardSaid : Prop := Claim7.holds Tryz.pinned (.plain (OpenSpec.upto changesPublishSpec)) changesPublishUptoCard

/-- THE SECOND FORM's CARD OF 'asoflaw14.ChangesRollback'. -/
def changesRollbackUptoCard : Claim7 := { stood := { row := changesRollbackUptoRow, standIns := [], harness := (true, "975332afdfa964b6d363ecfb09c835b67c91d5452ebe5531a4cda29b5d805356"), looks := true }, kinds := [], alts := [], laidByText := true, laidKinds := [.data, .data, .data, .data, .sentinel, .sentinel, .data, .widerDeep, .widerDeep, .widerDeep, .pinned], laidTests := true, laidLooks := .later }
def ChangesRollbackUptoCardSaid : Prop := Claim7.holds Tryz.pinned (.plain (OpenSpec.upto changesRollbackSpec)) changesRollbackUptoCard
end Rows
end Go.Proofs.YtmemninechdogaaGreatDoor
