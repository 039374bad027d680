/-
  No cell of these rows narrows 'for every input' (looked for: loops, veiled, ifaces, maps, wideKeys, modest, calm, conditions, laid).
  DERIVED. THE GIVEN ROWS OF THIS SEAT. 8 by the template 'for every input the law returns true; each argument reads behind the call as it read before'; 0 by the template 'total and deterministic' (their statements: YtmioifafgbjjhaaTotals.lean).
  GIVEN WITH THE SEED: the statements are not yours to turn. If you find one false, say at which input.
  Laid BY PROGRAM, IN A SANDBOX (cutbox-rows.mjs): the forced cells as the released guide's own fill.sh prints them over the translation bc2ce991c9c43336… (all of the seat's roots in one cut). By AI agents, Wed Nov 11 2026. No macro, syntax, notation, axiom, sorry.
-/
import Derived.Test.YtmioifafgbjjhaaChecked
import GoSem.Claim
import GoSem.ClaimJoined
import GoSem.ClaimMapViews
import Derived.JoinedTies
import Derived.KernelRfl
namespace Go.Proofs.Ytmioifafgbjjhaa
/- THE CELL 'sum', in the pinned program and in every row, IS THE sha256 OF THE DUMP (.gsa) THAT YtmioifafgbjjhaaProg.lean LOADS. Nothing in Lean hashes anything: it is a label: what it is worth is what the hold of that sum in a sandbox is worth. -/
noncomputable def Try.pinned : Pinned := { name := "ytmioifafgbjjhaa", sum := "bc2ce991c9c43336c5ffba76417a3699fb8c7e217ddcb81cae4f0508fb7a2f08", checked := Try.checked }
namespace Rows
def none {H : Type} : Left H := { results := [], args := [] }

/-- 'laws.FnColumnStatistics': WHATEVER THE INPUT: true; the input reads as it did. -/
def fnColumnStatisticsSpec : ChangeSpec := { name := "fnColumnStatistics", fn := fun _ => fun
  | [d] => { results := [.lit (.bool true)], args := [d] }
  | _ => none }
def fnColumnStatisticsRow : OpenClaim := { program := "ytmioifafgbjjhaa", sum := "bc2ce991c9c43336c5ffba76417a3699fb8c7e217ddcb81cae4f0508fb7a2f08", func := "loop.example/g01917/laws.FnColumnStatistics", spec := "fnColumnStatistics", recurses := true, apart := false }
def FnColumnStatisticsSaid : Prop := fnColumnStatisticsRow.holds Try.pinned (OpenSpec.ofChange fnColumnStatisticsSpec)

/-- ITS FALSE NEIGHBOUR: 'it returns false'. Refute it at one input. -/
def fnColumnStatisticsWrong : ChangeSpec := { name := "fnColumnStatistics", fn := fun _ => fun
  | [d] => { results := [.lit (.bool false)], args := [d] }
  | _ => none }
def FnColumnStatisticsWrongFalsely : Prop := fnColumnStatisticsRow.holds Try.pinned (OpenSpec.ofChange fnColumnStatisticsWrong)

/-- 'laws.FnDependencyViolation': WHATEVER THE INPUT: true; the input reads as it did. -/
def fnDependencyViolationSpec : ChangeSpec := { name := "fnDependencyViolation", fn := fun _ => fun
  | [d] => { results := [.lit (.bool true)], args := [d] }
  | _ => none }
def fnDependencyViolationRow : OpenClaim := { program := "ytmioifafgbjjhaa", sum := "bc2ce991c9c43336c5ffba76417a3699fb8c7e217ddcb81cae4f0508fb7a2f08", func := "loop.example/g01917/laws.FnDependencyViolation", spec := "fnDependencyViolation", recurses := true, apart := false }
def FnDependencyViolationSaid : Prop := fnDependencyViolationRow.holds Try.pinned (OpenSpec.ofChange fnDependencyViolationSpec)

/-- ITS FALSE NEIGHBOUR: 'it returns false'. Refute it at one input. -/
def fnDependencyViolationWrong : ChangeSpec := { name := "fnDependencyViolation", fn := fun _ => fun
  | [d] => { results := [.lit (.bool false)], args := [d] }
  | _ => none }
def FnDependencyViolationWrongFalsely : Prop := fnDependencyViolationRow.holds Try.pinned (OpenSpec.ofChange fnDependencyViolationWrong)

/-- 'laws.FnExactTightDatabase': WHATEVER THE INPUT: true; the input reads as it did. -/
def fnExactTightDatabaseSpec : ChangeSpec := { name := "fnExactTightDatabase", fn := fun _ => fun
  | [d1, d2, d3] => { results := [.lit (.bool true)], args := [d1, d2, d3] }
  | _ => none }
def fnExactTightDatabaseRow : OpenClaim := { program := "ytmioifafgbjjhaa", sum := "bc2ce991c9c43336c5ffba76417a3699fb8c7e217ddcb81cae4f0508fb7a2f08", func := "loop.example/g01917/laws.FnExactTightDatabase", spec := "fnExactTightDatabase", apart := false }
def FnExactTightDatabaseSaid : Prop := fnExactTightDatabaseRow.holds Try.pinned (OpenSpec.ofChange fnExactTightDatabaseSpec)

/-- ITS FALSE NEIGHBOUR: 'it returns false'. Refute it at one input. -/
def fnExactTightDatabaseWrong : ChangeSpec := { name := "fnExactTightDatabase", fn := fun _ => fun
  | [d1, d2, d3] => { results := [.lit (.bool false)], args := [d1, d2, d3] }
  | _ => none }
def FnExactTightDatabaseWrongFalsely : Prop := fnExactTightDatabaseRow.holds Try.pinned (OpenSpec.ofChange fnExactTightDatabaseWrong)

/-- 'laws.FnSnapshots': WHATEVER THE INPUT: true; the input reads as it did. -/
def fnSnapshotsSpec : ChangeSpec := { name := "fnSnapshots", fn := fun _ => fun
  | [d] => { results := [.lit (.bool true)], args := [d] }
  | _ => none }
def fnSnapshotsRow : OpenClaim := { program := "ytmioifafgbjjhaa", sum := "bc2ce991c9c43336c5ffba76417a3699fb8c7e217ddcb81cae4f0508fb7a2f08", func := "loop.example/g01917/laws.FnSnapshots", spec := "fnSnapshots", recurses := true, apart := false }
def FnSnapshotsSaid : Prop := fnSnapshotsRow.holds Try.pinned (OpenSpec.ofChange fnSnapshotsSpec)

/-- ITS FALSE NEIGHBOUR: 'it returns false'. Refute it at one input. -/
def fnSnapshotsWrong : ChangeSpec := { name := "fnSnapshots", fn := fun _ => fun
  | [d] => { results := [.lit (.bool false)], args := [d] }
  | _ => none }
def FnSnapshotsWrongFalsely : Prop := fnSnapshotsRow.holds Try.pinned (OpenSpec.ofChange fnSnapshotsWrong)

/-- 'laws.FnExactDropUnusedSnapshots': WHATEVER THE INPUT: true; the input reads as it did. -/
def fnExactDropUnusedSnapshotsSpec : ChangeSpec := { name := "fnExactDropUnusedSnapshots", fn := fun _ => fun
  | [d1, d2] => { results := [.lit (.bool true)], args := [d1, d2] }
  | _ => none }
def fnExactDropUnusedSnapshotsRow : OpenClaim := { program := "ytmioifafgbjjhaa", sum := "bc2ce991c9c43336c5ffba76417a3699fb8c7e217ddcb81cae4f0508fb7a2f08", func := "loop.example/g01917/laws.FnExactDropUnusedSnapshots", spec := "fnExactDropUnusedSnapshots", apart := false }
def FnExactDropUnusedSnapshotsSaid : Prop := fnExactDropUnusedSnapshotsRow.holds Try.pinned (OpenSpec.ofChange fnExactDropUnusedSnapshotsSpec)

/-- ITS FALSE NEIGHBOUR: 'it returns false'. Refute it at one input. -/
def fnExactDropUnusedSnapshotsWrong : ChangeSpec := { name := "fnExactDropUnusedSnapshots", fn := fun _ => fun
  | [d1, d2] => { results := [.lit (.bool false)], args := [d1, d2] }
  | _ => none }
def FnExactDropUnusedSnapshotsWrongFalsely : Prop := fnExactDropUnusedSnapshotsRow.holds Try.pinned (OpenSpec.ofChange fnExactDropUnusedSnapshotsWrong)

/-- 'laws.FnExactAppendSnapshot': WHATEVER THE INPUT: true; the input reads as it did. -/
def fnExactAppendSnapshotSpec : ChangeSpec := { name := "fnExactAppendSnapshot", fn := fun _ => fun
  | [d1, d2] => { results := [.lit (.bool true)], args := [d1, d2] }
  | _ => none }
def fnExactAppendSnapshotRow : OpenClaim := { program := "ytmioifafgbjjhaa", sum := "bc2ce991c9c43336c5ffba76417a3699fb8c7e217ddcb81cae4f0508fb7a2f08", func := "loop.example/g01917/laws.FnExactAppendSnapshot", spec := "fnExactAppendSnapshot", recurses := true, apart := false }
def FnExactAppendSnapshotSaid : Prop := fnExactAppendSnapshotRow.holds Try.pinned (OpenSpec.ofChange fnExactAppendSnapshotSpec)

/-- ITS FALSE NEIGHBOUR: 'it returns false'. Refute it at one input. -/
def fnExactAppendSnapshotWrong : ChangeSpec := { name := "fnExactAppendSnapshot", fn := fun _ => fun
  | [d1, d2] => { results := [.lit (.bool false)], args := [d1, d2] }
  | _ => none }
def FnExactAppendSnapshotWrongFalsely : Prop := fnExactAppendSnapshotRow.holds Try.pinned (OpenSpec.ofChange fnExactAppendSnapshotWrong)

/-- 'laws.FnSkewedInstance': WHATEVER THE INPUT: true; the input reads as it did. -/
def fnSkewedInstanceSpec : ChangeSpec := { name := "fnSkewedInstance", fn := fun _ => fun
  | [d] => { results := [.lit (.bool true)], args := [d] }
  | _ => none }
def fnSkewedInstanceRow : OpenClaim := { program := "ytmioifafgbjjhaa", sum := "bc2ce991c9c43336c5ffba76417a3699fb8c7e217ddcb81cae4f0508fb7a2f08", func := "loop.example/g01917/laws.FnSkewedInstance", spec := "fnSkewedInstance", unfollowed := true, recurses := true, apart := false }
def FnSkewedInstanceSaid : Prop := fnSkewedInstanceRow.holds Try.pinned (OpenSpec.ofChange fnSkewedInstanceSpec)

/-- ITS FALSE NEIGHBOUR: 'it returns false'. Refute it at one input. -/
def fnSkewedInstanceWrong : ChangeSpec := { name := "fnSkewedInstance", fn := fun _ => fun
  | [d] => { results := [.lit (.bool false)], args := [d] }
  | _ => none }
def FnSkewedInstanceWrongFalsely : Prop := fnSkewedInstanceRow.holds Try.pinned (OpenSpec.ofChange fnSkewedInstanceWrong)

/-- 'laws.FnFunctionalDependencyBound': WHATEVER THE INPUT: true; the input reads as it did. -/
def fnFunctionalDependencyBoundSpec : ChangeSpec := { name := "fnFunctionalDependencyBound", fn := fun _ => fun
  | [d] => { results := [.lit (.bool true)], args := [d] }
  | _ => none }
def fnFunctionalDependencyBoundRow : OpenClaim := { program := "ytmioifafgbjjhaa", sum := "bc2ce991c9c43336c5ffba76417a3699fb8c7e217ddcb81cae4f0508fb7a2f08", func := "loop.example/g01917/laws.FnFunctionalDependencyBound", spec := "fnFunctionalDependencyBound", recurses := true, apart := false }
def FnFunctionalDependencyBoundSaid : Prop := fnFunctionalDependencyBoundRow.holds Try.pinned (OpenSpec.ofChange fnFunctionalDependencyBoundSpec)

/-- ITS FALSE NEIGHBOUR: 'it returns false'. Refute it at one input. -/
def fnFunctionalDependencyBoundWrong : ChangeSpec := { name := "fnFunctionalDependencyBound", fn := fun _ => fun
  | [d] => { results := [.lit (.bool false)], args := [d] }
  | _ => none }
def FnFunctionalDependencyBoundWrongFalsely : Prop := fnFunctionalDependencyBoundRow.holds Try.pinned (OpenSpec.ofChange fnFunctionalDependencyBoundWrong)

/- THE SECOND FORM. 'bulk': how many values and letters a reading holds, each counted each time it is reached (what is shared counts as often as it is met; a slice's spare places count too). A statement '..UptoSaid' is the law's where the arguments, and the package variables that the reading takes, are together of bulk at most 1048576: NARROWER than '..Said'. Prove '..Said' where nothing that the law and all that it calls make is longer than what came in: it says more and counts as full. Else prove '..UptoSaid'. A law counts once. -/
mutual
def uptoBulk {H : Type} : DataW H → Nat
  | .lit (.string bytes) => bytes.length + 1
  | .lit _ => 1
  | .nil => 1
  | .ptr d => uptoBulk d + 1
  | .slice elems spare => uptoBulkAll elems + uptoBulkAll spare + 1
  | .agg parts => uptoBulkAll parts + 1
  | .iface _ d => uptoBulk d + 1
  | .map entries => uptoBulkEntries entries + 1
  | .held _ => 1
def uptoBulkAll {H : Type} : List (DataW H) → Nat
  | [] => 0
  | d :: r => uptoBulk d + uptoBulkAll r
def uptoBulkEntries {H : Type} : List (Lit × DataW H) → Nat
  | [] => 0
  | x :: r => uptoBulkEntry x + uptoBulkEntries r
def uptoBulkEntry {H : Type} : Lit × DataW H → Nat
  | (.string bytes, d) => bytes.length + uptoBulk d + 1
  | (_, d) => uptoBulk d + 1
 end
def uptoSmall : (H : Type) → List (DataW H) → Bool := fun _ ds => decide (uptoBulkAll ds ≤ 1048576)
def OpenSpec.upto (s : _root_.Go.ChangeSpec) : _root_.Go.OpenSpec := { _root_.Go.OpenSpec.ofChange s with cond := some uptoSmall }

/-- 'laws.FnColumnStatistics', WHERE WHAT IT READS IS OF BULK AT MOST 1048576: true; the input reads as it did. -/
def fnColumnStatisticsUptoRow : OpenClaim := { program := "ytmioifafgbjjhaa", sum := "bc2ce991c9c43336c5ffba76417a3699fb8c7e217ddcb81cae4f0508fb7a2f08", func := "loop.example/g01917/laws.FnColumnStatistics", spec := "fnColumnStatistics", recurses := true, apart := false, narrowed := true }
def FnColumnStatisticsUptoSaid : Prop := fnColumnStatisticsUptoRow.holds Try.pinned (OpenSpec.upto fnColumnStatisticsSpec)

/-- 'laws.FnDependencyViolation', WHERE WHAT IT READS IS OF BULK AT MOST 1048576: true; the input reads as it did. -/
def fnDependencyViolationUptoRow : OpenClaim := { program := "ytmioifafgbjjhaa", sum := "bc2ce991c9c43336c5ffba76417a3699fb8c7e217ddcb81cae4f0508fb7a2f08", func := "loop.example/g01917/laws.FnDependencyViolation", spec := "fnDependencyViolation", recurses := true, apart := false, narrowed := true }
def FnDependencyViolationUptoSaid : Prop := fnDependencyViolationUptoRow.holds Try.pinned (OpenSpec.upto fnDependencyViolationSpec)

/-- 'laws.FnExactTightDatabase', WHERE WHAT IT READS IS OF BULK AT MOST 1048576: true; the input reads as it did. -/
def fnExactTightDatabaseUptoRow : OpenClaim := { program := "ytmioifafgbjjhaa", sum := "bc2ce991c9c43336c5ffba76417a3699fb8c7e217ddcb81cae4f0508fb7a2f08", func := "loop.example/g01917/laws.FnExactTightDatabase", spec := "fnExactTightDatabase", apart := false, narrowed := true }
def FnExactTightDatabaseUptoSaid : Prop := fnExactTightDatabaseUptoRow.holds Try.pinned (OpenSpec.upto fnExactTightDatabaseSpec)

/-- 'laws.FnSnapshots', WHERE WHAT IT READS IS OF BULK AT MOST 1048576: true; the input reads as it did. -/
def fnSnapshotsUptoRow : OpenClaim := { program := "ytmioifafgbjjhaa", sum := "bc2ce991c9c43336c5ffba76417a3699fb8c7e217ddcb81cae4f0508fb7a2f08", func := "loop.example/g01917/laws.FnSnapshots", spec := "fnSnapshots", recurses := true, apart := false, narrowed := true }
def FnSnapshotsUptoSaid : Prop := fnSnapshotsUptoRow.holds Try.pinned (OpenSpec.upto fnSnapshotsSpec)

/-- 'laws.FnExactDropUnusedSnapshots', WHERE WHAT IT READS IS OF BULK AT MOST 1048576: true; the input reads as it did. -/
def fnExactDropUnusedSnapshotsUptoRow : OpenClaim := { program := "ytmioifafgbjjhaa", sum := "bc2ce991c9c43336c5ffba76417a3699fb8c7e217ddcb81cae4f0508fb7a2f08", func := "loop.example/g01917/laws.FnExactDropUnusedSnapshots", spec := "fnExactDropUnusedSnapshots", apart := false, narrowed := true }
def FnExactDropUnusedSnapshotsUptoSaid : Prop := fnExactDropUnusedSnapshotsUptoRow.holds Try.pinned (OpenSpec.upto fnExactDropUnusedSnapshotsSpec)

/-- 'laws.FnExactAppendSnapshot', WHERE WHAT IT READS IS OF BULK AT MOST 1048576: true; the input reads as it did. -/
def fnExactAppendSnapshotUptoRow : OpenClaim := { program := "ytmioifafgbjjhaa", sum := "bc2ce991c9c43336c5ffba76417a3699fb8c7e217ddcb81cae4f0508fb7a2f08", func := "loop.example/g01917/laws.FnExactAppendSnapshot", spec := "fnExactAppendSnapshot", recurses := true, apart := false, narrowed := true }
def FnExactAppendSnapshotUptoSaid : Prop := fnExactAppendSnapshotUptoRow.holds Try.pinned (OpenSpec.upto fnExactAppendSnapshotSpec)

/-- 'laws.FnSkewedInstance', WHERE WHAT IT READS IS OF BULK AT MOST 1048576: true; the input reads as it did. -/
def fnSkewedInstanceUptoRow : OpenClaim := { program := "ytmioifafgbjjhaa", sum := "bc2ce991c9c43336c5ffba76417a3699fb8c7e217ddcb81cae4f0508fb7a2f08", func := "loop.example/g01917/laws.FnSkewedInstance", spec := "fnSkewedInstance", unfollowed := true, recurses := true, apart := false, narrowed := true }
def FnSkewedInstanceUptoSaid : Prop := fnSkewedInstanceUptoRow.holds Try.pinned (OpenSpec.upto fnSkewedInstanceSpec)

/-- 'laws.FnFunctionalDependencyBound', WHERE WHAT IT READS IS OF BULK AT MOST 1048576: true; the input reads as it did. -/
def fnFunctionalDependencyBoundUptoRow : OpenClaim := { program := "ytmioifafgbjjhaa", sum := "bc2ce991c9c43336c5ffba76417a3699fb8c7e217ddcb81cae4f0508fb7a2f08", func := "loop.example/g01917/laws.FnFunctionalDependencyBound", spec := "fnFunctionalDependencyBound", recurses := true, apart := false, narrowed := true }
def FnFunctionalDependencyBoundUptoSaid : Prop := fnFunctionalDependencyBoundUptoRow.holds Try.pinned (OpenSpec.upto fnFunctionalDependencyBoundSpec)

end Rows
end Go.Proofs.Ytmioifafgbjjhaa
