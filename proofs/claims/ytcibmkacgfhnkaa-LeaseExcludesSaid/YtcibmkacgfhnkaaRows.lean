/-
  No cell of these rows narrows 'for every input' (looked for: loops, veiled, ifaces, maps, wideKeys, modest, calm, conditions, laid).
  DERIVED. THE GIVEN ROWS OF THIS SEAT. 6 by the template 'for every input the law returns true; each argument reads behind the call as it read before'; 0 by the template 'total and deterministic' (their statements: YtcibmkacgfhnkaaTotals.lean).
  GIVEN WITH THE SEED: the statements are not yours to turn. If you find one false, say at which input.
  Laid BY PROGRAM, IN A SANDBOX (cutbox-rows.mjs): the forced cells as the released guide's own fill.sh prints them over the translation 70788fdfce2406aa… (all of the seat's roots in one cut). By AI agents, Wed Nov 11 2026. No macro, syntax, notation, axiom, sorry.
-/
import Derived.Test.YtcibmkacgfhnkaaChecked
import GoSem.Claim
import GoSem.ClaimJoined
import GoSem.ClaimMapViews
import Derived.JoinedTies
import Derived.KernelRfl
namespace Go.Proofs.Ytcibmkacgfhnkaa
/- THE CELL 'sum', in the pinned program and in every row, IS THE sha256 OF THE DUMP (.gsa) THAT YtcibmkacgfhnkaaProg.lean LOADS. Nothing in Lean hashes anything: it is a label: what it is worth is what the hold of that sum in a sandbox is worth. -/
noncomputable def Try.pinned : Pinned := { name := "ytcibmkacgfhnkaa", sum := "70788fdfce2406aa5a259db07ee53f2b23a387bfb1d54d334f2e31206d12b15e", checked := Try.checked }
namespace Rows
def none {H : Type} : Left H := { results := [], args := [] }

/-- 'asoflaw42.LeaseMatches': WHATEVER THE INPUT: true; the input reads as it did. -/
def leaseMatchesSpec : ChangeSpec := { name := "leaseMatches", fn := fun _ => fun
  | [d1, d2, d3] => { results := [.lit (.bool true)], args := [d1, d2, d3] }
  | _ => none }
def leaseMatchesRow : OpenClaim := { program := "ytcibmkacgfhnkaa", sum := "70788fdfce2406aa5a259db07ee53f2b23a387bfb1d54d334f2e31206d12b15e", func := "asof/asoflaw42.LeaseMatches", spec := "leaseMatches", unfollowed := true, recurses := true, apart := false }
def LeaseMatchesSaid : Prop := leaseMatchesRow.holds Try.pinned (OpenSpec.ofChange leaseMatchesSpec)

/-- ITS FALSE NEIGHBOUR: 'it returns false'. Refute it at one input. -/
def leaseMatchesWrong : ChangeSpec := { name := "leaseMatches", fn := fun _ => fun
  | [d1, d2, d3] => { results := [.lit (.bool false)], args := [d1, d2, d3] }
  | _ => none }
def LeaseMatchesWrongFalsely : Prop := leaseMatchesRow.holds Try.pinned (OpenSpec.ofChange leaseMatchesWrong)

/-- 'asoflaw42.LeaseRejects': WHATEVER THE INPUT: true; the input reads as it did. -/
def leaseRejectsSpec : ChangeSpec := { name := "leaseRejects", fn := fun _ => fun
  | [d1, d2, d3] => { results := [.lit (.bool true)], args := [d1, d2, d3] }
  | _ => none }
def leaseRejectsRow : OpenClaim := { program := "ytcibmkacgfhnkaa", sum := "70788fdfce2406aa5a259db07ee53f2b23a387bfb1d54d334f2e31206d12b15e", func := "asof/asoflaw42.LeaseRejects", spec := "leaseRejects", unfollowed := true, recurses := true, apart := false }
def LeaseRejectsSaid : Prop := leaseRejectsRow.holds Try.pinned (OpenSpec.ofChange leaseRejectsSpec)

/-- ITS FALSE NEIGHBOUR: 'it returns false'. Refute it at one input. -/
def leaseRejectsWrong : ChangeSpec := { name := "leaseRejects", fn := fun _ => fun
  | [d1, d2, d3] => { results := [.lit (.bool false)], args := [d1, d2, d3] }
  | _ => none }
def LeaseRejectsWrongFalsely : Prop := leaseRejectsRow.holds Try.pinned (OpenSpec.ofChange leaseRejectsWrong)

/-- 'asoflaw42.LeaseExcludes': WHATEVER THE INPUT: true; the input reads as it did. -/
def leaseExcludesSpec : ChangeSpec := { name := "leaseExcludes", fn := fun _ => fun
  | [d1, d2, d3] => { results := [.lit (.bool true)], args := [d1, d2, d3] }
  | _ => none }
def leaseExcludesRow : OpenClaim := { program := "ytcibmkacgfhnkaa", sum := "70788fdfce2406aa5a259db07ee53f2b23a387bfb1d54d334f2e31206d12b15e", func := "asof/asoflaw42.LeaseExcludes", spec := "leaseExcludes", unfollowed := true, recurses := true, apart := false }
def LeaseExcludesSaid : Prop := leaseExcludesRow.holds Try.pinned (OpenSpec.ofChange leaseExcludesSpec)

/-- ITS FALSE NEIGHBOUR: 'it returns false'. Refute it at one input. -/
def leaseExcludesWrong : ChangeSpec := { name := "leaseExcludes", fn := fun _ => fun
  | [d1, d2, d3] => { results := [.lit (.bool false)], args := [d1, d2, d3] }
  | _ => none }
def LeaseExcludesWrongFalsely : Prop := leaseExcludesRow.holds Try.pinned (OpenSpec.ofChange leaseExcludesWrong)

/-- 'asoflaw42.LeaseOrders': WHATEVER THE INPUT: true; the input reads as it did. -/
def leaseOrdersSpec : ChangeSpec := { name := "leaseOrders", fn := fun _ => fun
  | [d1, d2] => { results := [.lit (.bool true)], args := [d1, d2] }
  | _ => none }
def leaseOrdersRow : OpenClaim := { program := "ytcibmkacgfhnkaa", sum := "70788fdfce2406aa5a259db07ee53f2b23a387bfb1d54d334f2e31206d12b15e", func := "asof/asoflaw42.LeaseOrders", spec := "leaseOrders", unfollowed := true, recurses := true, apart := false }
def LeaseOrdersSaid : Prop := leaseOrdersRow.holds Try.pinned (OpenSpec.ofChange leaseOrdersSpec)

/-- ITS FALSE NEIGHBOUR: 'it returns false'. Refute it at one input. -/
def leaseOrdersWrong : ChangeSpec := { name := "leaseOrders", fn := fun _ => fun
  | [d1, d2] => { results := [.lit (.bool false)], args := [d1, d2] }
  | _ => none }
def LeaseOrdersWrongFalsely : Prop := leaseOrdersRow.holds Try.pinned (OpenSpec.ofChange leaseOrdersWrong)

/-- 'asoflaw42.LeaseRefuses': WHATEVER THE INPUT: true; the input reads as it did. -/
def leaseRefusesSpec : ChangeSpec := { name := "leaseRefuses", fn := fun _ => fun
  | [d1, d2, d3, d4, d5] => { results := [.lit (.bool true)], args := [d1, d2, d3, d4, d5] }
  | _ => none }
def leaseRefusesRow : OpenClaim := { program := "ytcibmkacgfhnkaa", sum := "70788fdfce2406aa5a259db07ee53f2b23a387bfb1d54d334f2e31206d12b15e", func := "asof/asoflaw42.LeaseRefuses", spec := "leaseRefuses", unfollowed := true, recurses := true, apart := false }
def LeaseRefusesSaid : Prop := leaseRefusesRow.holds Try.pinned (OpenSpec.ofChange leaseRefusesSpec)

/-- ITS FALSE NEIGHBOUR: 'it returns false'. Refute it at one input. -/
def leaseRefusesWrong : ChangeSpec := { name := "leaseRefuses", fn := fun _ => fun
  | [d1, d2, d3, d4, d5] => { results := [.lit (.bool false)], args := [d1, d2, d3, d4, d5] }
  | _ => none }
def LeaseRefusesWrongFalsely : Prop := leaseRefusesRow.holds Try.pinned (OpenSpec.ofChange leaseRefusesWrong)

/-- 'asoflaw42.LeaseClocks': WHATEVER THE INPUT: true; the input reads as it did. -/
def leaseClocksSpec : ChangeSpec := { name := "leaseClocks", fn := fun _ => fun
  | [d1, d2, d3] => { results := [.lit (.bool true)], args := [d1, d2, d3] }
  | _ => none }
def leaseClocksRow : OpenClaim := { program := "ytcibmkacgfhnkaa", sum := "70788fdfce2406aa5a259db07ee53f2b23a387bfb1d54d334f2e31206d12b15e", func := "asof/asoflaw42.LeaseClocks", spec := "leaseClocks", unfollowed := true, recurses := true, apart := false }
def LeaseClocksSaid : Prop := leaseClocksRow.holds Try.pinned (OpenSpec.ofChange leaseClocksSpec)

/-- ITS FALSE NEIGHBOUR: 'it returns false'. Refute it at one input. -/
def leaseClocksWrong : ChangeSpec := { name := "leaseClocks", fn := fun _ => fun
  | [d1, d2, d3] => { results := [.lit (.bool false)], args := [d1, d2, d3] }
  | _ => none }
def LeaseClocksWrongFalsely : Prop := leaseClocksRow.holds Try.pinned (OpenSpec.ofChange leaseClocksWrong)

/- THE SECOND FORM. 'bulk': how many values and letters a reading holds, each counted each time it is reached (what is shared counts as often as it is met; a slice's spare places count too). A statement '..UptoSaid' is the law's where the arguments, and the package variables that the reading takes, are together of bulk at most 1048576: NARROWER than '..Said'. Prove '..Said' where nothing that the law and all that it calls make is longer than what came in: it says more and counts as full. Else prove '..UptoSaid'. A law counts once. -/
mutual
def uptoBulk {H : Type} : DataW H → Nat
  | .lit (.string bytes) => bytes.length + 1
  | .lit _ => 1
  | .nil => 1
  | .ptr d => uptoBulk d + 1
  | .slice elems spare => uptoBulkAll elems + uptoBulkAll spare + 1
  | .agg parts => uptoBulkAll parts + 1
  | .iface _ d => uptoBulk d + 1
  | .map entries => uptoBulkEntries entries + 1
  | .held _ => 1
def uptoBulkAll {H : Type} : List (DataW H) → Nat
  | [] => 0
  | d :: r => uptoBulk d + uptoBulkAll r
def uptoBulkEntries {H : Type} : List (Lit × DataW H) → Nat
  | [] => 0
  | x :: r => uptoBulkEntry x + uptoBulkEntries r
def uptoBulkEntry {H : Type} : Lit × DataW H → Nat
  | (.string bytes, d) => bytes.length + uptoBulk d + 1
  | (_, d) => uptoBulk d + 1
 end
def uptoSmall : (H : Type) → List (DataW H) → Bool := fun _ ds => decide (uptoBulkAll ds ≤ 1048576)
def OpenSpec.upto (s : _root_.Go.ChangeSpec) : _root_.Go.OpenSpec := { _root_.Go.OpenSpec.ofChange s with cond := some uptoSmall }

/-- 'asoflaw42.LeaseMatches', WHERE WHAT IT READS IS OF BULK AT MOST 1048576: true; the input reads as it did. -/
def leaseMatchesUptoRow : OpenClaim := { program := "ytcibmkacgfhnkaa", sum := "70788fdfce2406aa5a259db07ee53f2b23a387bfb1d54d334f2e31206d12b15e", func := "asof/asoflaw42.LeaseMatches", spec := "leaseMatches", unfollowed := true, recurses := true, apart := false, narrowed := true }
def LeaseMatchesUptoSaid : Prop := leaseMatchesUptoRow.holds Try.pinned (OpenSpec.upto leaseMatchesSpec)

/-- 'asoflaw42.LeaseRejects', WHERE WHAT IT READS IS OF BULK AT MOST 1048576: true; the input reads as it did. -/
def leaseRejectsUptoRow : OpenClaim := { program := "ytcibmkacgfhnkaa", sum := "70788fdfce2406aa5a259db07ee53f2b23a387bfb1d54d334f2e31206d12b15e", func := "asof/asoflaw42.LeaseRejects", spec := "leaseRejects", unfollowed := true, recurses := true, apart := false, narrowed := true }
def LeaseRejectsUptoSaid : Prop := leaseRejectsUptoRow.holds Try.pinned (OpenSpec.upto leaseRejectsSpec)

/-- 'asoflaw42.LeaseExcludes', WHERE WHAT IT READS IS OF BULK AT MOST 1048576: true; the input reads as it did. -/
def leaseExcludesUptoRow : OpenClaim := { program := "ytcibmkacgfhnkaa", sum := "70788fdfce2406aa5a259db07ee53f2b23a387bfb1d54d334f2e31206d12b15e", func := "asof/asoflaw42.LeaseExcludes", spec := "leaseExcludes", unfollowed := true, recurses := true, apart := false, narrowed := true }
def LeaseExcludesUptoSaid : Prop := leaseExcludesUptoRow.holds Try.pinned (OpenSpec.upto leaseExcludesSpec)

/-- 'asoflaw42.LeaseOrders', WHERE WHAT IT READS IS OF BULK AT MOST 1048576: true; the input reads as it did. -/
def leaseOrdersUptoRow : OpenClaim := { program := "ytcibmkacgfhnkaa", sum := "70788fdfce2406aa5a259db07ee53f2b23a387bfb1d54d334f2e31206d12b15e", func := "asof/asoflaw42.LeaseOrders", spec := "leaseOrders", unfollowed := true, recurses := true, apart := false, narrowed := true }
def LeaseOrdersUptoSaid : Prop := leaseOrdersUptoRow.holds Try.pinned (OpenSpec.upto leaseOrdersSpec)

/-- 'asoflaw42.LeaseRefuses', WHERE WHAT IT READS IS OF BULK AT MOST 1048576: true; the input reads as it did. -/
def leaseRefusesUptoRow : OpenClaim := { program := "ytcibmkacgfhnkaa", sum := "70788fdfce2406aa5a259db07ee53f2b23a387bfb1d54d334f2e31206d12b15e", func := "asof/asoflaw42.LeaseRefuses", spec := "leaseRefuses", unfollowed := true, recurses := true, apart := false, narrowed := true }
def LeaseRefusesUptoSaid : Prop := leaseRefusesUptoRow.holds Try.pinned (OpenSpec.upto leaseRefusesSpec)

/-- 'asoflaw42.LeaseClocks', WHERE WHAT IT READS IS OF BULK AT MOST 1048576: true; the input reads as it did. -/
def leaseClocksUptoRow : OpenClaim := { program := "ytcibmkacgfhnkaa", sum := "70788fdfce2406aa5a259db07ee53f2b23a387bfb1d54d334f2e31206d12b15e", func := "asof/asoflaw42.LeaseClocks", spec := "leaseClocks", unfollowed := true, recurses := true, apart := false, narrowed := true }
def LeaseClocksUptoSaid : Prop := leaseClocksUptoRow.holds Try.pinned (OpenSpec.upto leaseClocksSpec)

end Rows
end Go.Proofs.Ytcibmkacgfhnkaa
