/-
  DERIVED. GIVEN WITH THE SEED: THE CARDS: each row of YtekngilbecjkhaaGreatDoorRows.lean that lists a variable, with what it lists TIED to the program's text (the seventh form; the later family's looks); each row that meets fmt, with fmt's text TOLD by the authors' own Lean function (tested against real Go, not proved from fmt's source: count such statements apart). THE CARD IS WHAT COUNTS. Prove the row's statement (the work); the ties are given (YtekngilbecjkhaaGreatDoorTie.lean); close each card by the builder's one call (the guide's Derived/Test/ToyasCard.lean, 'card_holds'). Laid BY PROGRAM, IN A SANDBOX (cutbox-door.mjs). By AI agents, Wed Nov 11 2026. No macro, syntax, notation, axiom, sorry.
-/
import Derived.Test.YtekngilbecjkhaaGreatDoorRows
import GoSem.ClaimSeven
namespace Go.Proofs.YtekngilbecjkhaaGreatDoor
namespace Rows

/-- THE TIED CARD OF 'asoflaw12.CatalogChecks'. -/
def catalogChecksCard : Claim7 := { stood := { row := catalogChecksRow, standIns := [], harness := (true, "ae8ca190d8965c72a3c55c51b5f7c1958e5f76dc206efceee1d161db8963bc84"), looks := false }, kinds := [], alts := [], laidByText := true, laidKinds := [.widerDeep, .widerDeep, .widerDeep], laidTests := true, laidLooks := .later }
def CatalogChecksCardSaid : Prop := Claim7.holds Tryz.pinned (.plain (OpenSpec.ofChange catalogChecksSpec)) catalogChecksCard

/-- THE TIED CARD OF 'asoflaw12.CatalogUses'. -/
def catalogUsesCard : Claim7 := { stood := { row := catalogUsesRow, standIns := [], harness := (true, "ae8ca190d8965c72a3c55c51b5f7c1958e5f76dc206efceee1d161db8963bc84"), looks := false }, kinds := [], alts := [], laidByText := true, laidKinds := [.widerDeep, .widerDeep, .widerDeep], laidTests := true, laidLooks := .later }
def CatalogUsesCardSaid : Prop := Claim7.holds Tryz.pinned (.plain (OpenSpec.ofChange catalogUsesSpec)) catalogUsesCard

/-- THE TIED CARD OF 'asoflaw12.CatalogCycles'. -/
def catalogCyclesCard : Claim7 := { stood := { row := catalogCyclesRow, standIns := [], harness := (true, "ae8ca190d8965c72a3c55c51b5f7c1958e5f76dc206efceee1d161db8963bc84"), looks := false }, kinds := [], alts := [], laidByText := true, laidKinds := [.widerDeep, .widerDeep, .widerDeep], laidTests := true, laidLooks := .later }
def CatalogCyclesCardSaid : Prop := Claim7.holds Tryz.pinned (.plain (OpenSpec.ofChange catalogCyclesSpec)) catalogCyclesCard

/-- THE TIED CARD OF 'asoflaw12.CatalogCloses'. -/
def catalogClosesCard : Claim7 := { stood := { row := catalogClosesRow, standIns := [], harness := (true, "ae8ca190d8965c72a3c55c51b5f7c1958e5f76dc206efceee1d161db8963bc84"), looks := false }, kinds := [], alts := [], laidByText := true, laidKinds := [.widerDeep, .widerDeep, .widerDeep], laidTests := true, laidLooks := .later }
def CatalogClosesCardSaid : Prop := Claim7.holds Tryz.pinned (.plain (OpenSpec.ofChange catalogClosesSpec)) catalogClosesCard

/-- THE TIED CARD OF 'asoflaw12.CatalogOrders'. -/
def catalogOrdersCard : Claim7 := { stood := { row := catalogOrdersRow, standIns := [], harness := (true, "ae8ca190d8965c72a3c55c51b5f7c1958e5f76dc206efceee1d161db8963bc84"), looks := false }, kinds := [], alts := [], laidByText := true, laidKinds := [.widerDeep, .widerDeep, .widerDeep], laidTests := true, laidLooks := .later }
def CatalogOrdersCardSaid : Prop := Claim7.holds Tryz.pinned (.plain (OpenSpec.ofChange catalogOrdersSpec)) catalogOrdersCard

/-- THE TIED CARD OF 'asoflaw12.CatalogFits'. -/
def catalogFitsCard : Claim7 := { stood := { row := catalogFitsRow, standIns := [], harness := (true, "ae8ca190d8965c72a3c55c51b5f7c1958e5f76dc206efceee1d161db8963bc84"), looks := false }, kinds := [], alts := [], laidByText := true, laidKinds := [.widerDeep, .widerDeep, .widerDeep], laidTests := true, laidLooks := .later }
def CatalogFitsCardSaid : Prop := Claim7.holds Tryz.pinned (.plain (OpenSpec.ofChange catalogFitsSpec)) catalogFitsCard

/-- THE TIED CARD OF 'asoflaw12.CatalogFinds'. -/
def catalogFindsCard : Claim7 := { stood := { row := catalogFindsRow, standIns := [], harness := (true, "ae8ca190d8965c72a3c55c51b5f7c1958e5f76dc206efceee1d161db8963bc84"), looks := false }, kinds := [], alts := [], laidByText := true, laidKinds := [.widerDeep, .widerDeep, .widerDeep], laidTests := true, laidLooks := .later }
def CatalogFindsCardSaid : Prop := Claim7.holds Tryz.pinned (.plain (OpenSpec.ofChange catalogFindsSpec)) catalogFindsCard

/-- THE SECOND FORM's CARD OF 'asoflaw12.CatalogChecks'. -/
def catalogChecksUptoCard : Claim7 := { stood := { row := catalogChecksUptoRow, standIns := [], harness := (true, "ae8ca190d8965c72a3c55c51b5f7c1958e5f76dc206efceee1d161db8963bc84"), looks := false }, kinds := [], alts := [], laidByText := true, laidKinds := [.widerDeep, .widerDeep, .widerDeep], laidTests := true, laidLooks := .later }
def CatalogChecksUptoCardSaid : Prop := Claim7.holds Tryz.pinned (.plain (OpenSpec.upto catalogChecksSpec)) catalogChecksUptoCard

/-- THE SECOND FORM's CARD OF 'asoflaw12.CatalogUses'. -/
def catalogUsesUptoCard : Claim7 := { stood := { row := catalogUsesUptoRow, standIns := [], harness := (true, "ae8ca190d8965c72a3c55c51b5f7c1958e5f76dc206efceee1d161db8963bc84"), looks := false }, kinds := [], alts := [], laidByText := true, laidKinds := [.widerDeep, .widerDeep, .widerDeep], laidTests := true, laidLooks := .later }
def CatalogUsesUptoCardSaid : Prop := Claim7.holds Tryz.pinned (.plain (OpenSpec.upto catalogUsesSpec)) catalogUsesUptoCard

/-- THE SECOND FORM's CARD OF 'asoflaw12.CatalogCycles'. -/
def catalogCyclesUptoCard : Claim7 := { stood := { row := catalogCyclesUptoRow, standIns := [], harness := (true, "ae8ca190d8965c72a3c55c51b5f7c1958e5f76dc206efceee1d161db8963bc84"), looks := false }, kinds := [], alts := [], laidByText := true, laidKinds := [.widerDeep, .widerDeep, .widerDeep], laidTests := true, laidLooks := .later }
def CatalogCyclesUptoCardSaid : Prop := Claim7.holds Tryz.pinned (.plain (OpenSpec.upto catalogCyclesSpec)) catalogCyclesUptoCard

/-- THE SECOND FORM's CARD OF 'asoflaw12.CatalogCloses'. -/
def catalogClosesUptoCard : Claim7 := { stood := { row := catalogClosesUptoRow, standIns := [], harness := (true, "ae8ca190d8965c72a3c55c51b5f7c1958e5f76dc206efceee1d161db8963bc84"), looks := false }, kinds := [], alts := [], laidByText := true, laidKinds := [.widerDeep, .widerDeep, .widerDeep], laidTests := true, laidLooks := .later }
def CatalogClosesUptoCardSaid : Prop := Claim7.holds Tryz.pinned (.plain (OpenSpec.upto catalogClosesSpec)) catalogClosesUptoCard

/-- THE SECOND FORM's CARD OF 'asoflaw12.CatalogOrders'. -/
def catalogOrdersUptoCard : Claim7 := { stood := { row := catalogOrdersUptoRow, standIns := [], harness := (true, "ae8ca190d8965c72a3c55c51b5f7c1958e5f76dc206efceee1d161db8963bc84"), looks := false }, kinds := [], alts := [], laidByText := true, laidKinds := [.widerDeep, .widerDeep, .widerDeep], laidTests := true, laidLooks := .later }
def CatalogOrdersUptoCardSaid : Prop := Claim7.holds Tryz.pinned (.plain (OpenSpec.upto catalogOrdersSpec)) catalogOrdersUptoCard

/-- THE SECOND FORM's CARD OF 'asoflaw12.CatalogFits'. -/
def catalogFitsUptoCard : Claim7 := { stood := { row := catalogFitsUptoRow, standIns := [], harness := (true, "ae8ca190d8965c72a3c55c51b5f7c1958e5f76dc206efceee1d161db8963bc84"), looks := false }, kinds := [], alts := [], laidByText := true, laidKinds := [.widerDeep, .widerDeep, .widerDeep], laidTests := true, laidLooks := .later }
def CatalogFitsUptoCardSaid : Prop := Claim7.holds Tryz.pinned (.plain (OpenSpec.upto catalogFitsSpec)) catalogFitsUptoCard

/-- THE SECOND FORM's CARD OF 'asoflaw12.CatalogFinds'. -/
def catalogFindsUptoCard : Claim7 := { stood := { row := catalogFindsUptoRow, standIns := [], harness := (true, "ae8ca190d8965c72a3c55c51b5f7c1958e5f76dc206efceee1d161db8963bc84"), looks := false }, kinds := [], alts := [], laidByText := true, laidKinds := [.widerDeep, .widerDeep, .widerDeep], laidTests := true, laidLooks := .later }
def CatalogFindsUptoCardSaid : Prop := Claim7.holds Tryz.pinned (.plain (OpenSpec.upto catalogFindsSpec)) catalogFindsUptoCard
end Rows
end Go.Proofs.YtekngilbecjkhaaGreatDoor
