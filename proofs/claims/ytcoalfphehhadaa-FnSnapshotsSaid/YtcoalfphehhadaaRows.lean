/-
  No cell of these rows narrows 'for every input' (looked for: loops, veiled, ifaces, maps, wideKeys, modest, calm, conditions, laid).
  DERIVED. THE GIVEN ROWS OF THIS SEAT. 3 by the template 'for every input the law returns true; each argument reads behind the call as it read before'; 0 by the template 'total and deterministic' (their statements: YtcoalfphehhadaaTotals.lean).
  GIVEN WITH THE SEED: the statements are not yours to turn. If you find one false, say at which input.
  Laid BY PROGRAM, IN A SANDBOX (cutbox-rows.mjs): the forced cells as the released guide's own fill.sh prints them over the translation 4a756ce7c4c460d0… (all of the seat's roots in one cut). By AI agents, Wed Nov 11 2026. No macro, syntax, notation, axiom, sorry.
-/
import Derived.Test.YtcoalfphehhadaaChecked
import GoSem.Claim
import GoSem.ClaimJoined
import GoSem.ClaimMapViews
import Derived.JoinedTies
import Derived.KernelRfl
namespace Go.Proofs.Ytcoalfphehhadaa
/- THE CELL 'sum', in the pinned program and in every row, IS THE sha256 OF THE DUMP (.gsa) THAT YtcoalfphehhadaaProg.lean LOADS. Nothing in Lean hashes anything: it is a label: what it is worth is what the hold of that sum in a sandbox is worth. -/
noncomputable def Try.pinned : Pinned := { name := "ytcoalfphehhadaa", sum := "4a756ce7c4c460d0e5dff39c3bf1f44a40996e24a310127dcce631f4fa8b0940", checked := Try.checked }
namespace Rows
def none {H : Type} : Left H := { results := [], args := [] }

/-- 'laws.FnSnapshots': WHATEVER THE INPUT: true; the input reads as it did. -/
def fnSnapshotsSpec : ChangeSpec := { name := "fnSnapshots", fn := fun _ => fun
  | [d] => { results := [.lit (.bool true)], args := [d] }
  | _ => none }
def fnSnapshotsRow : OpenClaim := { program := "ytcoalfphehhadaa", sum := "4a756ce7c4c460d0e5dff39c3bf1f44a40996e24a310127dcce631f4fa8b0940", func := "loop.example/g01917/laws.FnSnapshots", spec := "fnSnapshots", recurses := true, apart := false }
def FnSnapshotsSaid : Prop := fnSnapshotsRow.holds Try.pinned (OpenSpec.ofChange fnSnapshotsSpec)

/-- ITS FALSE NEIGHBOUR: 'it returns false'. Refute it at one input. -/
def fnSnapshotsWrong : ChangeSpec := { name := "fnSnapshots", fn := fun _ => fun
  | [d] => { results := [.lit (.bool false)], args := [d] }
  | _ => none }
def FnSnapshotsWrongFalsely : Prop := fnSnapshotsRow.holds Try.pinned (OpenSpec.ofChange fnSnapshotsWrong)

/-- 'laws.FnExactDropUnusedSnapshots': WHATEVER THE INPUT: true; the input reads as it did. -/
def fnExactDropUnusedSnapshotsSpec : ChangeSpec := { name := "fnExactDropUnusedSnapshots", fn := fun _ => fun
  | [d1, d2] => { results := [.lit (.bool true)], args := [d1, d2] }
  | _ => none }
def fnExactDropUnusedSnapshotsRow : OpenClaim := { program := "ytcoalfphehhadaa", sum := "4a756ce7c4c460d0e5dff39c3bf1f44a40996e24a310127dcce631f4fa8b0940", func := "loop.example/g01917/laws.FnExactDropUnusedSnapshots", spec := "fnExactDropUnusedSnapshots", apart := false }
def FnExactDropUnusedSnapshotsSaid : Prop := fnExactDropUnusedSnapshotsRow.holds Try.pinned (OpenSpec.ofChange fnExactDropUnusedSnapshotsSpec)

/-- ITS FALSE NEIGHBOUR: 'it returns false'. Refute it at one input. -/
def fnExactDropUnusedSnapshotsWrong : ChangeSpec := { name := "fnExactDropUnusedSnapshots", fn := fun _ => fun
  | [d1, d2] => { results := [.lit (.bool false)], args := [d1, d2] }
  | _ => none }
def FnExactDropUnusedSnapshotsWrongFalsely : Prop := fnExactDropUnusedSnapshotsRow.holds Try.pinned (OpenSpec.ofChange fnExactDropUnusedSnapshotsWrong)

/-- 'laws.FnFunctionalDependencyBound': WHATEVER THE INPUT: true; the input reads as it did. -/
def fnFunctionalDependencyBoundSpec : ChangeSpec := { name := "fnFunctionalDependencyBound", fn := fun _ => fun
  | [d] => { results := [.lit (.bool true)], args := [d] }
  | _ => none }
def fnFunctionalDependencyBoundRow : OpenClaim := { program := "ytcoalfphehhadaa", sum := "4a756ce7c4c460d0e5dff39c3bf1f44a40996e24a310127dcce631f4fa8b0940", func := "loop.example/g01917/laws.FnFunctionalDependencyBound", spec := "fnFunctionalDependencyBound", recurses := true, apart := false }
def FnFunctionalDependencyBoundSaid : Prop := fnFunctionalDependencyBoundRow.holds Try.pinned (OpenSpec.ofChange fnFunctionalDependencyBoundSpec)

/-- ITS FALSE NEIGHBOUR: 'it returns false'. Refute it at one input. -/
def fnFunctionalDependencyBoundWrong : ChangeSpec := { name := "fnFunctionalDependencyBound", fn := fun _ => fun
  | [d] => { results := [.lit (.bool false)], args := [d] }
  | _ => none }
def FnFunctionalDependencyBoundWrongFalsely : Prop := fnFunctionalDependencyBoundRow.holds Try.pinned (OpenSpec.ofChange fnFunctionalDependencyBoundWrong)

/- THE SECOND FORM. 'bulk': how many values and letters a reading holds, each counted each time it is reached (what is shared counts as often as it is met; a slice's spare places count too). A statement '..UptoSaid' is the law's where the arguments, and the package variables that the reading takes, are together of bulk at most 1048576: NARROWER than '..Said'. Prove '..Said' where nothing that the law and all that it calls make is longer than what came in: it says more and counts as full. Else prove '..UptoSaid'. A law counts once. -/
mutual
def uptoBulk {H : Type} : DataW H → Nat
  | .lit (.string bytes) => bytes.length + 1
  | .lit _ => 1
  | .nil => 1
  | .ptr d => uptoBulk d + 1
  | .slice elems spare => uptoBulkAll elems + uptoBulkAll spare + 1
  | .agg parts => uptoBulkAll parts + 1
  | .iface _ d => uptoBulk d + 1
  | .map entries => uptoBulkEntries entries + 1
  | .held _ => 1
def uptoBulkAll {H : Type} : List (DataW H) → Nat
  | [] => 0
  | d :: r => uptoBulk d + uptoBulkAll r
def uptoBulkEntries {H : Type} : List (Lit × DataW H) → Nat
  | [] => 0
  | x :: r => uptoBulkEntry x + uptoBulkEntries r
def uptoBulkEntry {H : Type} : Lit × DataW H → Nat
  | (.string bytes, d) => bytes.length + uptoBulk d + 1
  | (_, d) => uptoBulk d + 1
 end
def uptoSmall : (H : Type) → List (DataW H) → Bool := fun _ ds => decide (uptoBulkAll ds ≤ 1048576)
def OpenSpec.upto (s : _root_.Go.ChangeSpec) : _root_.Go.OpenSpec := { _root_.Go.OpenSpec.ofChange s with cond := some uptoSmall }

/-- 'laws.FnSnapshots', WHERE WHAT IT READS IS OF BULK AT MOST 1048576: true; the input reads as it did. -/
def fnSnapshotsUptoRow : OpenClaim := { program := "ytcoalfphehhadaa", sum := "4a756ce7c4c460d0e5dff39c3bf1f44a40996e24a310127dcce631f4fa8b0940", func := "loop.example/g01917/laws.FnSnapshots", spec := "fnSnapshots", recurses := true, apart := false, narrowed := true }
def FnSnapshotsUptoSaid : Prop := fnSnapshotsUptoRow.holds Try.pinned (OpenSpec.upto fnSnapshotsSpec)

/-- 'laws.FnExactDropUnusedSnapshots', WHERE WHAT IT READS IS OF BULK AT MOST 1048576: true; the input reads as it did. -/
def fnExactDropUnusedSnapshotsUptoRow : OpenClaim := { program := "ytcoalfphehhadaa", sum := "4a756ce7c4c460d0e5dff39c3bf1f44a40996e24a310127dcce631f4fa8b0940", func := "loop.example/g01917/laws.FnExactDropUnusedSnapshots", spec := "fnExactDropUnusedSnapshots", apart := false, narrowed := true }
def FnExactDropUnusedSnapshotsUptoSaid : Prop := fnExactDropUnusedSnapshotsUptoRow.holds Try.pinned (OpenSpec.upto fnExactDropUnusedSnapshotsSpec)

/-- 'laws.FnFunctionalDependencyBound', WHERE WHAT IT READS IS OF BULK AT MOST 1048576: true; the input reads as it did. -/
def fnFunctionalDependencyBoundUptoRow : OpenClaim := { program := "ytcoalfphehhadaa", sum := "4a756ce7c4c460d0e5dff39c3bf1f44a40996e24a310127dcce631f4fa8b0940", func := "loop.example/g01917/laws.FnFunctionalDependencyBound", spec := "fnFunctionalDependencyBound", recurses := true, apart := false, narrowed := true }
def FnFunctionalDependencyBoundUptoSaid : Prop := fnFunctionalDependencyBoundUptoRow.holds Try.pinned (OpenSpec.upto fnFunctionalDependencyBoundSpec)

end Rows
end Go.Proofs.Ytcoalfphehhadaa
