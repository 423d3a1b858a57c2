/-
  NARROWER THAN 'FOR EVERY INPUT', by the rows' own cells (each row's printed sentence says how): CatalogChecks: loops, laid · CatalogUses: loops, laid · CatalogCycles: loops, laid · CatalogCloses: loops, laid · CatalogOrders: loops, laid · CatalogFits: loops, laid · CatalogFinds: loops, laid.
  DERIVED. THE GIVEN ROWS OF THIS SEAT. 7 by the template 'for every input the law returns true; each argument reads behind the call as it read before'; 0 by the template 'total and deterministic' (their statements: YtekngilbecjkhaaGreatDoorTotals.lean).
  GIVEN WITH THE SEED: the statements are not yours to turn. If you find one false, say at which input.
  Laid BY PROGRAM, IN A SANDBOX (cutbox-rows.mjs): the forced cells as the released guide's own fill.sh prints them over the translation abe05d8bbe5cf3b3… (all of the seat's roots in one cut). By AI agents, Wed Nov 11 2026. No macro, syntax, notation, axiom, sorry.
-/
import Derived.Test.YtekngilbecjkhaaGreatDoorChecked
import GoSem.Claim
import GoSem.ClaimJoined
import GoSem.ClaimMapViews
import Derived.JoinedTies
import Derived.KernelRfl
namespace Go.Proofs.YtekngilbecjkhaaGreatDoor
/- THE CELL 'sum', in the pinned program and in every row, IS THE sha256 OF THE DUMP (.gsa) THAT YtekngilbecjkhaaGreatDoorProg.lean LOADS. Nothing in Lean hashes anything: it is a label: what it is worth is what the hold of that sum in a sandbox is worth. -/
noncomputable def Tryz.pinned : Pinned := { name := "ytekngilbecjkhaagreatdoor", sum := "abe05d8bbe5cf3b3fa752d86676e312d715ed3b1a4db6fe4f7fdfb739ac452f3", checked := Tryz.checked }
namespace Rows
def none {H : Type} : Left H := { results := [], args := [] }

/- WHAT THE LISTED PACKAGE-LEVEL VARIABLES READ AS WHEN THE CALL BEGINS. Each datum BY PROGRAM (the guide's laid-datum.mjs) off the statement by which the dump's own 'gosem.cut.vars' lays the variable. In a bare row this is a premise. The card (YtekngilbecjkhaaGreatDoorCards.lean) ties it to the program's text. -/
def laid_asof_checker_aggregates {H : Type} : DataW H := .slice [.lit (.string [99, 111, 117, 110, 116]), .lit (.string [115, 117, 109]), .lit (.string [109, 101, 97, 110]), .lit (.string [109, 105, 110]), .lit (.string [109, 97, 120]), .lit (.string [102, 105, 114, 115, 116]), .lit (.string [108, 97, 115, 116]), .lit (.string [100, 105, 115, 116, 105, 110, 99, 116]), .lit (.string [113, 117, 97, 110, 116, 105, 108, 101]), .lit (.string [100, 101, 99, 97, 121])] []
def laid_asof_checker_unary {H : Type} : DataW H := .slice [.lit (.string [45]), .lit (.string [110, 111, 116]), .lit (.string [110, 117, 108, 108])] []
def laid_asof_checker_binary {H : Type} : DataW H := .slice [.lit (.string [43]), .lit (.string [45]), .lit (.string [42]), .lit (.string [47]), .lit (.string [61, 61]), .lit (.string [33, 61]), .lit (.string [60]), .lit (.string [60, 61]), .lit (.string [97, 110, 100]), .lit (.string [111, 114])] []

/-- 'asoflaw12.CatalogChecks': WHATEVER THE INPUT: true; the input reads as it did. -/
def catalogChecksSpec : ChangeSpec := { name := "catalogChecks", fn := fun _ => fun
  | [d] => { results := [.lit (.bool true)], args := [d] }
  | _ => none }
def catalogChecksRow : OpenClaim := { program := "ytekngilbecjkhaagreatdoor", sum := "abe05d8bbe5cf3b3fa752d86676e312d715ed3b1a4db6fe4f7fdfb739ac452f3", func := "asof/asoflaw12.CatalogChecks", spec := "catalogChecks", inPlace := ["internal/bytealg.IndexByteString", "internal/bytealg.IndexString", "math/bits.Add64", "math/bits.Sub64"], unfollowed := true, recurses := true, named := ["internal/bytealg.MaxLen", "asof/checker.aggregates", "asof/checker.unary", "asof/checker.binary", "math/bits.divideError", "math/bits.overflowError"], loops := true, plainKeys := false, apart := false, laid := [("asof/checker.aggregates", laid_asof_checker_aggregates), ("asof/checker.unary", laid_asof_checker_unary), ("asof/checker.binary", laid_asof_checker_binary)] }
def CatalogChecksSaid : Prop := catalogChecksRow.holds Tryz.pinned (OpenSpec.ofChange catalogChecksSpec)

/-- ITS FALSE NEIGHBOUR: 'it returns false'. Refute it at one input. -/
def catalogChecksWrong : ChangeSpec := { name := "catalogChecks", fn := fun _ => fun
  | [d] => { results := [.lit (.bool false)], args := [d] }
  | _ => none }
def CatalogChecksWrongFalsely : Prop := catalogChecksRow.holds Tryz.pinned (OpenSpec.ofChange catalogChecksWrong)

/-- 'asoflaw12.CatalogUses': WHATEVER THE INPUT: true; the input reads as it did. -/
def catalogUsesSpec : ChangeSpec := { name := "catalogUses", fn := fun _ => fun
  | [d1, d2] => { results := [.lit (.bool true)], args := [d1, d2] }
  | _ => none }
def catalogUsesRow : OpenClaim := { program := "ytekngilbecjkhaagreatdoor", sum := "abe05d8bbe5cf3b3fa752d86676e312d715ed3b1a4db6fe4f7fdfb739ac452f3", func := "asof/asoflaw12.CatalogUses", spec := "catalogUses", inPlace := ["internal/bytealg.IndexByteString", "internal/bytealg.IndexString", "math/bits.Add64", "math/bits.Sub64"], unfollowed := true, recurses := true, named := ["internal/bytealg.MaxLen", "asof/checker.aggregates", "asof/checker.unary", "asof/checker.binary", "math/bits.divideError", "math/bits.overflowError"], loops := true, plainKeys := false, apart := false, laid := [("asof/checker.aggregates", laid_asof_checker_aggregates), ("asof/checker.unary", laid_asof_checker_unary), ("asof/checker.binary", laid_asof_checker_binary)] }
def CatalogUsesSaid : Prop := catalogUsesRow.holds Tryz.pinned (OpenSpec.ofChange catalogUsesSpec)

/-- ITS FALSE NEIGHBOUR: 'it returns false'. Refute it at one input. -/
def catalogUsesWrong : ChangeSpec := { name := "catalogUses", fn := fun _ => fun
  | [d1, d2] => { results := [.lit (.bool false)], args := [d1, d2] }
  | _ => none }
def CatalogUsesWrongFalsely : Prop := catalogUsesRow.holds Tryz.pinned (OpenSpec.ofChange catalogUsesWrong)

/-- 'asoflaw12.CatalogCycles': WHATEVER THE INPUT: true; the input reads as it did. -/
def catalogCyclesSpec : ChangeSpec := { name := "catalogCycles", fn := fun _ => fun
  | [d] => { results := [.lit (.bool true)], args := [d] }
  | _ => none }
def catalogCyclesRow : OpenClaim := { program := "ytekngilbecjkhaagreatdoor", sum := "abe05d8bbe5cf3b3fa752d86676e312d715ed3b1a4db6fe4f7fdfb739ac452f3", func := "asof/asoflaw12.CatalogCycles", spec := "catalogCycles", inPlace := ["internal/bytealg.IndexByteString", "internal/bytealg.IndexString", "math/bits.Add64", "math/bits.Sub64"], unfollowed := true, recurses := true, named := ["internal/bytealg.MaxLen", "asof/checker.aggregates", "asof/checker.unary", "asof/checker.binary", "math/bits.divideError", "math/bits.overflowError"], loops := true, plainKeys := false, apart := false, laid := [("asof/checker.aggregates", laid_asof_checker_aggregates), ("asof/checker.unary", laid_asof_checker_unary), ("asof/checker.binary", laid_asof_checker_binary)] }
def CatalogCyclesSaid : Prop := catalogCyclesRow.holds Tryz.pinned (OpenSpec.ofChange catalogCyclesSpec)

/-- ITS FALSE NEIGHBOUR: 'it returns false'. Refute it at one input. -/
def catalogCyclesWrong : ChangeSpec := { name := "catalogCycles", fn := fun _ => fun
  | [d] => { results := [.lit (.bool false)], args := [d] }
  | _ => none }
def CatalogCyclesWrongFalsely : Prop := catalogCyclesRow.holds Tryz.pinned (OpenSpec.ofChange catalogCyclesWrong)

/-- 'asoflaw12.CatalogCloses': WHATEVER THE INPUT: true; the input reads as it did. -/
def catalogClosesSpec : ChangeSpec := { name := "catalogCloses", fn := fun _ => fun
  | [d1, d2] => { results := [.lit (.bool true)], args := [d1, d2] }
  | _ => none }
def catalogClosesRow : OpenClaim := { program := "ytekngilbecjkhaagreatdoor", sum := "abe05d8bbe5cf3b3fa752d86676e312d715ed3b1a4db6fe4f7fdfb739ac452f3", func := "asof/asoflaw12.CatalogCloses", spec := "catalogCloses", inPlace := ["internal/bytealg.IndexByteString", "internal/bytealg.IndexString", "math/bits.Add64", "math/bits.Sub64"], unfollowed := true, recurses := true, named := ["internal/bytealg.MaxLen", "asof/checker.aggregates", "asof/checker.unary", "asof/checker.binary", "math/bits.divideError", "math/bits.overflowError"], loops := true, plainKeys := false, apart := false, laid := [("asof/checker.aggregates", laid_asof_checker_aggregates), ("asof/checker.unary", laid_asof_checker_unary), ("asof/checker.binary", laid_asof_checker_binary)] }
def CatalogClosesSaid : Prop := catalogClosesRow.holds Tryz.pinned (OpenSpec.ofChange catalogClosesSpec)

/-- ITS FALSE NEIGHBOUR: 'it returns false'. Refute it at one input. -/
def catalogClosesWrong : ChangeSpec := { name := "catalogCloses", fn := fun _ => fun
  | [d1, d2] => { results := [.lit (.bool false)], args := [d1, d2] }
  | _ => none }
def CatalogClosesWrongFalsely : Prop := catalogClosesRow.holds Tryz.pinned (OpenSpec.ofChange catalogClosesWrong)

/-- 'asoflaw12.CatalogOrders': WHATEVER THE INPUT: true; the input reads as it did. -/
def catalogOrdersSpec : ChangeSpec := { name := "catalogOrders", fn := fun _ => fun
  | [d] => { results := [.lit (.bool true)], args := [d] }
  | _ => none }
def catalogOrdersRow : OpenClaim := { program := "ytekngilbecjkhaagreatdoor", sum := "abe05d8bbe5cf3b3fa752d86676e312d715ed3b1a4db6fe4f7fdfb739ac452f3", func := "asof/asoflaw12.CatalogOrders", spec := "catalogOrders", inPlace := ["internal/bytealg.IndexByteString", "internal/bytealg.IndexString", "math/bits.Add64", "math/bits.Sub64"], unfollowed := true, recurses := true, named := ["internal/bytealg.MaxLen", "asof/checker.aggregates", "asof/checker.unary", "asof/checker.binary", "math/bits.divideError", "math/bits.overflowError"], loops := true, plainKeys := false, apart := false, laid := [("asof/checker.aggregates", laid_asof_checker_aggregates), ("asof/checker.unary", laid_asof_checker_unary), ("asof/checker.binary", laid_asof_checker_binary)] }
def CatalogOrdersSaid : Prop := catalogOrdersRow.holds Tryz.pinned (OpenSpec.ofChange catalogOrdersSpec)

/-- ITS FALSE NEIGHBOUR: 'it returns false'. Refute it at one input. -/
def catalogOrdersWrong : ChangeSpec := { name := "catalogOrders", fn := fun _ => fun
  | [d] => { results := [.lit (.bool false)], args := [d] }
  | _ => none }
def CatalogOrdersWrongFalsely : Prop := catalogOrdersRow.holds Tryz.pinned (OpenSpec.ofChange catalogOrdersWrong)

/-- 'asoflaw12.CatalogFits': WHATEVER THE INPUT: true; the input reads as it did. -/
def catalogFitsSpec : ChangeSpec := { name := "catalogFits", fn := fun _ => fun
  | [d] => { results := [.lit (.bool true)], args := [d] }
  | _ => none }
def catalogFitsRow : OpenClaim := { program := "ytekngilbecjkhaagreatdoor", sum := "abe05d8bbe5cf3b3fa752d86676e312d715ed3b1a4db6fe4f7fdfb739ac452f3", func := "asof/asoflaw12.CatalogFits", spec := "catalogFits", inPlace := ["internal/bytealg.IndexByteString", "internal/bytealg.IndexString", "math/bits.Add64", "math/bits.Sub64"], unfollowed := true, recurses := true, named := ["internal/bytealg.MaxLen", "asof/checker.aggregates", "asof/checker.unary", "asof/checker.binary", "math/bits.divideError", "math/bits.overflowError"], loops := true, plainKeys := false, apart := false, laid := [("asof/checker.aggregates", laid_asof_checker_aggregates), ("asof/checker.unary", laid_asof_checker_unary), ("asof/checker.binary", laid_asof_checker_binary)] }
def CatalogFitsSaid : Prop := catalogFitsRow.holds Tryz.pinned (OpenSpec.ofChange catalogFitsSpec)

/-- ITS FALSE NEIGHBOUR: 'it returns false'. Refute it at one input. -/
def catalogFitsWrong : ChangeSpec := { name := "catalogFits", fn := fun _ => fun
  | [d] => { results := [.lit (.bool false)], args := [d] }
  | _ => none }
def CatalogFitsWrongFalsely : Prop := catalogFitsRow.holds Tryz.pinned (OpenSpec.ofChange catalogFitsWrong)

/-- 'asoflaw12.CatalogFinds': WHATEVER THE INPUT: true; the input reads as it did. -/
def catalogFindsSpec : ChangeSpec := { name := "catalogFinds", fn := fun _ => fun
  | [d1, d2] => { results := [.lit (.bool true)], args := [d1, d2] }
  | _ => none }
def catalogFindsRow : OpenClaim := { program := "ytekngilbecjkhaagreatdoor", sum := "abe05d8bbe5cf3b3fa752d86676e312d715ed3b1a4db6fe4f7fdfb739ac452f3", func := "asof/asoflaw12.CatalogFinds", spec := "catalogFinds", inPlace := ["internal/bytealg.IndexByteString", "internal/bytealg.IndexString", "math/bits.Add64", "math/bits.Sub64"], unfollowed := true, recurses := true, named := ["internal/bytealg.MaxLen", "asof/checker.aggregates", "asof/checker.unary", "asof/checker.binary", "math/bits.divideError", "math/bits.overflowError"], loops := true, plainKeys := false, apart := false, laid := [("asof/checker.aggregates", laid_asof_checker_aggregates), ("asof/checker.unary", laid_asof_checker_unary), ("asof/checker.binary", laid_asof_checker_binary)] }
def CatalogFindsSaid : Prop := catalogFindsRow.holds Tryz.pinned (OpenSpec.ofChange catalogFindsSpec)

/-- ITS FALSE NEIGHBOUR: 'it returns false'. Refute it at one input. -/
def catalogFindsWrong : ChangeSpec := { name := "catalogFinds", fn := fun _ => fun
  | [d1, d2] => { results := [.lit (.bool false)], args := [d1, d2] }
  | _ => none }
def CatalogFindsWrongFalsely : Prop := catalogFindsRow.holds Tryz.pinned (OpenSpec.ofChange catalogFindsWrong)

/- THE SECOND FORM. 'bulk': how many values and letters a reading holds, each counted each time it is reached (what is shared counts as often as it is met; a slice's spare places count too). A statement '..UptoSaid' is the law's where the arguments, and the package variables that the reading takes, are together of bulk at most 1048576: NARROWER than '..Said'. Prove '..Said' where nothing that the law and all that it calls make is longer than what came in: it says more and counts as full. Else prove '..UptoSaid'. A law counts once. -/
mutual
def uptoBulk {H : Type} : DataW H → Nat
  | .lit (.string bytes) => bytes.length + 1
  | .lit _ => 1
  | .nil => 1
  | .ptr d => uptoBulk d + 1
  | .slice elems spare => uptoBulkAll elems + uptoBulkAll spare + 1
  | .agg parts => uptoBulkAll parts + 1
  | .iface _ d => uptoBulk d + 1
  | .map entries => uptoBulkEntries entries + 1
  | .held _ => 1
def uptoBulkAll {H : Type} : List (DataW H) → Nat
  | [] => 0
  | d :: r => uptoBulk d + uptoBulkAll r
def uptoBulkEntries {H : Type} : List (Lit × DataW H) → Nat
  | [] => 0
  | x :: r => uptoBulkEntry x + uptoBulkEntries r
def uptoBulkEntry {H : Type} : Lit × DataW H → Nat
  | (.string bytes, d) => bytes.length + uptoBulk d + 1
  | (_, d) => uptoBulk d + 1
 end
def uptoSmall : (H : Type) → List (DataW H) → Bool := fun _ ds => decide (uptoBulkAll ds ≤ 1048576)
def OpenSpec.upto (s : _root_.Go.ChangeSpec) : _root_.Go.OpenSpec := { _root_.Go.OpenSpec.ofChange s with cond := some uptoSmall }

/-- 'asoflaw12.CatalogChecks', WHERE WHAT IT READS IS OF BULK AT MOST 1048576: true; the input reads as it did. -/
def catalogChecksUptoRow : OpenClaim := { program := "ytekngilbecjkhaagreatdoor", sum := "abe05d8bbe5cf3b3fa752d86676e312d715ed3b1a4db6fe4f7fdfb739ac452f3", func := "asof/asoflaw12.CatalogChecks", spec := "catalogChecks", inPlace := ["internal/bytealg.IndexByteString", "internal/bytealg.IndexString", "math/bits.Add64", "math/bits.Sub64"], unfollowed := true, recurses := true, named := ["internal/bytealg.MaxLen", "asof/checker.aggregates", "asof/checker.unary", "asof/checker.binary", "math/bits.divideError", "math/bits.overflowError"], loops := true, plainKeys := false, apart := false, laid := [("asof/checker.aggregates", laid_asof_checker_aggregates), ("asof/checker.unary", laid_asof_checker_unary), ("asof/checker.binary", laid_asof_checker_binary)], narrowed := true }
def CatalogChecksUptoSaid : Prop := catalogChecksUptoRow.holds Tryz.pinned (OpenSpec.upto catalogChecksSpec)

/-- 'asoflaw12.CatalogUses', WHERE WHAT IT READS IS OF BULK AT MOST 1048576: true; the input reads as it did. -/
def catalogUsesUptoRow : OpenClaim := { program := "ytekngilbecjkhaagreatdoor", sum := "abe05d8bbe5cf3b3fa752d86676e312d715ed3b1a4db6fe4f7fdfb739ac452f3", func := "asof/asoflaw12.CatalogUses", spec := "catalogUses", inPlace := ["internal/bytealg.IndexByteString", "internal/bytealg.IndexString", "math/bits.Add64", "math/bits.Sub64"], unfollowed := true, recurses := true, named := ["internal/bytealg.MaxLen", "asof/checker.aggregates", "asof/checker.unary", "asof/checker.binary", "math/bits.divideError", "math/bits.overflowError"], loops := true, plainKeys := false, apart := false, laid := [("asof/checker.aggregates", laid_asof_checker_aggregates), ("asof/checker.unary", laid_asof_checker_unary), ("asof/checker.binary", laid_asof_checker_binary)], narrowed := true }
def CatalogUsesUptoSaid : Prop := catalogUsesUptoRow.holds Tryz.pinned (OpenSpec.upto catalogUsesSpec)

/-- 'asoflaw12.CatalogCycles', WHERE WHAT IT READS IS OF BULK AT MOST 1048576: true; the input reads as it did. -/
def catalogCyclesUptoRow : OpenClaim := { program := "ytekngilbecjkhaagreatdoor", sum := "abe05d8bbe5cf3b3fa752d86676e312d715ed3b1a4db6fe4f7fdfb739ac452f3", func := "asof/asoflaw12.CatalogCycles", spec := "catalogCycles", inPlace := ["internal/bytealg.IndexByteString", "internal/bytealg.IndexString", "math/bits.Add64", "math/bits.Sub64"], unfollowed := true, recurses := true, named := ["internal/bytealg.MaxLen", "asof/checker.aggregates", "asof/checker.unary", "asof/checker.binary", "math/bits.divideError", "math/bits.overflowError"], loops := true, plainKeys := false, apart := false, laid := [("asof/checker.aggregates", laid_asof_checker_aggregates), ("asof/checker.unary", laid_asof_checker_unary), ("asof/checker.binary", laid_asof_checker_binary)], narrowed := true }
def CatalogCyclesUptoSaid : Prop := catalogCyclesUptoRow.holds Tryz.pinned (OpenSpec.upto catalogCyclesSpec)

/-- 'asoflaw12.CatalogCloses', WHERE WHAT IT READS IS OF BULK AT MOST 1048576: true; the input reads as it did. -/
def catalogClosesUptoRow : OpenClaim := { program := "ytekngilbecjkhaagreatdoor", sum := "abe05d8bbe5cf3b3fa752d86676e312d715ed3b1a4db6fe4f7fdfb739ac452f3", func := "asof/asoflaw12.CatalogCloses", spec := "catalogCloses", inPlace := ["internal/bytealg.IndexByteString", "internal/bytealg.IndexString", "math/bits.Add64", "math/bits.Sub64"], unfollowed := true, recurses := true, named := ["internal/bytealg.MaxLen", "asof/checker.aggregates", "asof/checker.unary", "asof/checker.binary", "math/bits.divideError", "math/bits.overflowError"], loops := true, plainKeys := false, apart := false, laid := [("asof/checker.aggregates", laid_asof_checker_aggregates), ("asof/checker.unary", laid_asof_checker_unary), ("asof/checker.binary", laid_asof_checker_binary)], narrowed := true }
def CatalogClosesUptoSaid : Prop := catalogClosesUptoRow.holds Tryz.pinned (OpenSpec.upto catalogClosesSpec)

/-- 'asoflaw12.CatalogOrders', WHERE WHAT IT READS IS OF BULK AT MOST 1048576: true; the input reads as it did. -/
def catalogOrdersUptoRow : OpenClaim := { program := "ytekngilbecjkhaagreatdoor", sum := "abe05d8bbe5cf3b3fa752d86676e312d715ed3b1a4db6fe4f7fdfb739ac452f3", func := "asof/asoflaw12.CatalogOrders", spec := "catalogOrders", inPlace := ["internal/bytealg.IndexByteString", "internal/bytealg.IndexString", "math/bits.Add64", "math/bits.Sub64"], unfollowed := true, recurses := true, named := ["internal/bytealg.MaxLen", "asof/checker.aggregates", "asof/checker.unary", "asof/checker.binary", "math/bits.divideError", "math/bits.overflowError"], loops := true, plainKeys := false, apart := false, laid := [("asof/checker.aggregates", laid_asof_checker_aggregates), ("asof/checker.unary", laid_asof_checker_unary), ("asof/checker.binary", laid_asof_checker_binary)], narrowed := true }
def CatalogOrdersUptoSaid : Prop := catalogOrdersUptoRow.holds Tryz.pinned (OpenSpec.upto catalogOrdersSpec)

/-- 'asoflaw12.CatalogFits', WHERE WHAT IT READS IS OF BULK AT MOST 1048576: true; the input reads as it did. -/
def catalogFitsUptoRow : OpenClaim := { program := "ytekngilbecjkhaagreatdoor", sum := "abe05d8bbe5cf3b3fa752d86676e312d715ed3b1a4db6fe4f7fdfb739ac452f3", func := "asof/asoflaw12.CatalogFits", spec := "catalogFits", inPlace := ["internal/bytealg.IndexByteString", "internal/bytealg.IndexString", "math/bits.Add64", "math/bits.Sub64"], unfollowed := true, recurses := true, named := ["internal/bytealg.MaxLen", "asof/checker.aggregates", "asof/checker.unary", "asof/checker.binary", "math/bits.divideError", "math/bits.overflowError"], loops := true, plainKeys := false, apart := false, laid := [("asof/checker.aggregates", laid_asof_checker_aggregates), ("asof/checker.unary", laid_asof_checker_unary), ("asof/checker.binary", laid_asof_checker_binary)], narrowed := true }
def CatalogFitsUptoSaid : Prop := catalogFitsUptoRow.holds Tryz.pinned (OpenSpec.upto catalogFitsSpec)

/-- 'asoflaw12.CatalogFinds', WHERE WHAT IT READS IS OF BULK AT MOST 1048576: true; the input reads as it did. -/
def catalogFindsUptoRow : OpenClaim := { program := "ytekngilbecjkhaagreatdoor", sum := "abe05d8bbe5cf3b3fa752d86676e312d715ed3b1a4db6fe4f7fdfb739ac452f3", func := "asof/asoflaw12.CatalogFinds", spec := "catalogFinds", inPlace := ["internal/bytealg.IndexByteString", "internal/bytealg.IndexString", "math/bits.Add64", "math/bits.Sub64"], unfollowed := true, recurses := true, named := ["internal/bytealg.MaxLen", "asof/checker.aggregates", "asof/checker.unary", "asof/checker.binary", "math/bits.divideError", "math/bits.overflowError"], loops := true, plainKeys := false, apart := false, laid := [("asof/checker.aggregates", laid_asof_checker_aggregates), ("asof/checker.unary", laid_asof_checker_unary), ("asof/checker.binary", laid_asof_checker_binary)], narrowed := true }
def CatalogFindsUptoSaid : Prop := catalogFindsUptoRow.holds Tryz.pinned (OpenSpec.upto catalogFindsSpec)

end Rows
end Go.Proofs.YtekngilbecjkhaaGreatDoor
