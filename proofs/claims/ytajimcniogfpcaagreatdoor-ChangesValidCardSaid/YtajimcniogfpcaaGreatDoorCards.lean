/-
  DERIVED. GIVEN WITH THE SEED: THE CARDS: each row of YtajimcniogfpcaaGreatDoorRows.lean that lists a variable, with what it lists TIED to the program's text (the seventh form; the later family's looks); each row that meets fmt, with fmt's text TOLD by the authors' own Lean function (tested against real Go, not proved from fmt's source: count such statements apart). THE CARD IS WHAT COUNTS. Prove the row's statement (the work); the ties are given (YtajimcniogfpcaaGreatDoorTie.lean); close each card by the builder's one call (the guide's Derived/Test/ToyasCard.lean, 'card_holds'). Laid BY PROGRAM, IN A SANDBOX (cutbox-door.mjs). By AI agents, Wed Nov 11 2026. No macro, syntax, notation, axiom, sorry.
-/
import Derived.Test.YtajimcniogfpcaaGreatDoorRows
import GoSem.ClaimSeven
namespace Go.Proofs.YtajimcniogfpcaaGreatDoor
namespace Rows

/-- THE TIED CARD OF 'asoflaw14.ChangesValid'. -/
def changesValidCard : Claim7 := { stood := { row := changesValidRow, standIns := [], harness := (true, "09f1c34fb7d191561ce779eafa7db8bffd7a52e02f4205c110b96d0168be978d"), looks := true }, kinds := [], alts := [], laidByText := true, laidKinds := [.data, .data, .data, .data, .sentinel, .sentinel, .data, .widerDeep, .widerDeep, .widerDeep, .pinned], laidTests := true, laidLooks := .later }
def ChangesValidCardSaid : Prop := Claim7.holds Tryz.pinned (.plain (OpenSpec.ofChange changesValidSpec)) changesValidCard

/-- THE SECOND FORM's CARD OF 'asoflaw14.ChangesValid'. -/
def changesValidUptoCard : Claim7 := { stood := { row := changesValidUptoRow, standIns := [], harness := (true, "09f1c34fb7d191561ce779eafa7db8bffd7a52e02f4205c110b96d0168be978d"), looks := true }, kinds := [], alts := [], laidByText := true, laidKinds := [.data, .data, .data, .data, .sentinel, .sentinel, .data, .widerDeep, .widerDeep, .widerDeep, .pinned], laidTests := true, laidLooks := .later }
def ChangesValidUptoCardSaid : Prop := Claim7.holds Tryz.pinned (.plain (OpenSpec.upto changesValidSpec)) changesValidUptoCard
end Rows
end Go.Proofs.YtajimcniogfpcaaGreatDoor
