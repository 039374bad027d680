/-
  No cell of these rows narrows 'for every input' (looked for: loops, veiled, ifaces, maps, wideKeys, modest, calm, conditions, laid).
  DERIVED. THE GIVEN ROWS OF THIS SEAT. 6 by the template 'for every input the law returns true; each argument reads behind the call as it read before'; 0 by the template 'total and deterministic' (their statements: YtnijkpbecgifjaaTotals.lean).
  GIVEN WITH THE SEED: the statements are not yours to turn. If you find one false, say at which input.
  Laid BY PROGRAM, IN A SANDBOX (cutbox-rows.mjs): the forced cells as the released guide's own fill.sh prints them over the translation ae675b124839d9f3… (all of the seat's roots in one cut). By AI agents, Wed Nov 11 2026. No macro, syntax, notation, axiom, sorry.
-/
import Derived.Test.YtnijkpbecgifjaaChecked
import GoSem.Claim
import GoSem.ClaimJoined
import GoSem.ClaimMapViews
import Derived.JoinedTies
import Derived.KernelRfl
namespace Go.Proofs.Ytnijkpbecgifjaa
/- THE CELL 'sum', in the pinned program and in every row, IS THE sha256 OF THE DUMP (.gsa) THAT YtnijkpbecgifjaaProg.lean LOADS. Nothing in Lean hashes anything: it is a label: what it is worth is what the hold of that sum in a sandbox is worth. -/
noncomputable def Try.pinned : Pinned := { name := "ytnijkpbecgifjaa", sum := "ae675b124839d9f3d18fc476164e88eb7d58a189781a254de260cbaa2e45d0af", checked := Try.checked }
namespace Rows
def none {H : Type} : Left H := { results := [], args := [] }

/-- 'laws.FnExactFormatPlanKind': WHATEVER THE INPUT: true; the input reads as it did. -/
def fnExactFormatPlanKindSpec : ChangeSpec := { name := "fnExactFormatPlanKind", fn := fun _ => fun
  | [d] => { results := [.lit (.bool true)], args := [d] }
  | _ => none }
def fnExactFormatPlanKindRow : OpenClaim := { program := "ytnijkpbecgifjaa", sum := "ae675b124839d9f3d18fc476164e88eb7d58a189781a254de260cbaa2e45d0af", func := "loop.example/g01917/laws.FnExactFormatPlanKind", spec := "fnExactFormatPlanKind", apart := false }
def FnExactFormatPlanKindSaid : Prop := fnExactFormatPlanKindRow.holds Try.pinned (OpenSpec.ofChange fnExactFormatPlanKindSpec)

/-- ITS FALSE NEIGHBOUR: 'it returns false'. Refute it at one input. -/
def fnExactFormatPlanKindWrong : ChangeSpec := { name := "fnExactFormatPlanKind", fn := fun _ => fun
  | [d] => { results := [.lit (.bool false)], args := [d] }
  | _ => none }
def FnExactFormatPlanKindWrongFalsely : Prop := fnExactFormatPlanKindRow.holds Try.pinned (OpenSpec.ofChange fnExactFormatPlanKindWrong)

/-- 'laws.FnExactFullRelation': WHATEVER THE INPUT: true; the input reads as it did. -/
def fnExactFullRelationSpec : ChangeSpec := { name := "fnExactFullRelation", fn := fun _ => fun
  | [d] => { results := [.lit (.bool true)], args := [d] }
  | _ => none }
def fnExactFullRelationRow : OpenClaim := { program := "ytnijkpbecgifjaa", sum := "ae675b124839d9f3d18fc476164e88eb7d58a189781a254de260cbaa2e45d0af", func := "loop.example/g01917/laws.FnExactFullRelation", spec := "fnExactFullRelation", apart := false }
def FnExactFullRelationSaid : Prop := fnExactFullRelationRow.holds Try.pinned (OpenSpec.ofChange fnExactFullRelationSpec)

/-- ITS FALSE NEIGHBOUR: 'it returns false'. Refute it at one input. -/
def fnExactFullRelationWrong : ChangeSpec := { name := "fnExactFullRelation", fn := fun _ => fun
  | [d] => { results := [.lit (.bool false)], args := [d] }
  | _ => none }
def FnExactFullRelationWrongFalsely : Prop := fnExactFullRelationRow.holds Try.pinned (OpenSpec.ofChange fnExactFullRelationWrong)

/-- 'laws.FnExactEqualCertificates': WHATEVER THE INPUT: true; the input reads as it did. -/
def fnExactEqualCertificatesSpec : ChangeSpec := { name := "fnExactEqualCertificates", fn := fun _ => fun
  | [d1, d2] => { results := [.lit (.bool true)], args := [d1, d2] }
  | _ => none }
def fnExactEqualCertificatesRow : OpenClaim := { program := "ytnijkpbecgifjaa", sum := "ae675b124839d9f3d18fc476164e88eb7d58a189781a254de260cbaa2e45d0af", func := "loop.example/g01917/laws.FnExactEqualCertificates", spec := "fnExactEqualCertificates", apart := false }
def FnExactEqualCertificatesSaid : Prop := fnExactEqualCertificatesRow.holds Try.pinned (OpenSpec.ofChange fnExactEqualCertificatesSpec)

/-- ITS FALSE NEIGHBOUR: 'it returns false'. Refute it at one input. -/
def fnExactEqualCertificatesWrong : ChangeSpec := { name := "fnExactEqualCertificates", fn := fun _ => fun
  | [d1, d2] => { results := [.lit (.bool false)], args := [d1, d2] }
  | _ => none }
def FnExactEqualCertificatesWrongFalsely : Prop := fnExactEqualCertificatesRow.holds Try.pinned (OpenSpec.ofChange fnExactEqualCertificatesWrong)

/-- 'laws.FnExactDistinctCount': WHATEVER THE INPUT: true; the input reads as it did. -/
def fnExactDistinctCountSpec : ChangeSpec := { name := "fnExactDistinctCount", fn := fun _ => fun
  | [d1, d2] => { results := [.lit (.bool true)], args := [d1, d2] }
  | _ => none }
def fnExactDistinctCountRow : OpenClaim := { program := "ytnijkpbecgifjaa", sum := "ae675b124839d9f3d18fc476164e88eb7d58a189781a254de260cbaa2e45d0af", func := "loop.example/g01917/laws.FnExactDistinctCount", spec := "fnExactDistinctCount", apart := false }
def FnExactDistinctCountSaid : Prop := fnExactDistinctCountRow.holds Try.pinned (OpenSpec.ofChange fnExactDistinctCountSpec)

/-- ITS FALSE NEIGHBOUR: 'it returns false'. Refute it at one input. -/
def fnExactDistinctCountWrong : ChangeSpec := { name := "fnExactDistinctCount", fn := fun _ => fun
  | [d1, d2] => { results := [.lit (.bool false)], args := [d1, d2] }
  | _ => none }
def FnExactDistinctCountWrongFalsely : Prop := fnExactDistinctCountRow.holds Try.pinned (OpenSpec.ofChange fnExactDistinctCountWrong)

/-- 'laws.FnExactMaxColumnDegree': WHATEVER THE INPUT: true; the input reads as it did. -/
def fnExactMaxColumnDegreeSpec : ChangeSpec := { name := "fnExactMaxColumnDegree", fn := fun _ => fun
  | [d1, d2] => { results := [.lit (.bool true)], args := [d1, d2] }
  | _ => none }
def fnExactMaxColumnDegreeRow : OpenClaim := { program := "ytnijkpbecgifjaa", sum := "ae675b124839d9f3d18fc476164e88eb7d58a189781a254de260cbaa2e45d0af", func := "loop.example/g01917/laws.FnExactMaxColumnDegree", spec := "fnExactMaxColumnDegree", apart := false }
def FnExactMaxColumnDegreeSaid : Prop := fnExactMaxColumnDegreeRow.holds Try.pinned (OpenSpec.ofChange fnExactMaxColumnDegreeSpec)

/-- ITS FALSE NEIGHBOUR: 'it returns false'. Refute it at one input. -/
def fnExactMaxColumnDegreeWrong : ChangeSpec := { name := "fnExactMaxColumnDegree", fn := fun _ => fun
  | [d1, d2] => { results := [.lit (.bool false)], args := [d1, d2] }
  | _ => none }
def FnExactMaxColumnDegreeWrongFalsely : Prop := fnExactMaxColumnDegreeRow.holds Try.pinned (OpenSpec.ofChange fnExactMaxColumnDegreeWrong)

/-- 'laws.FnExactColumnDegrees': WHATEVER THE INPUT: true; the input reads as it did. -/
def fnExactColumnDegreesSpec : ChangeSpec := { name := "fnExactColumnDegrees", fn := fun _ => fun
  | [d1, d2] => { results := [.lit (.bool true)], args := [d1, d2] }
  | _ => none }
def fnExactColumnDegreesRow : OpenClaim := { program := "ytnijkpbecgifjaa", sum := "ae675b124839d9f3d18fc476164e88eb7d58a189781a254de260cbaa2e45d0af", func := "loop.example/g01917/laws.FnExactColumnDegrees", spec := "fnExactColumnDegrees", apart := false }
def FnExactColumnDegreesSaid : Prop := fnExactColumnDegreesRow.holds Try.pinned (OpenSpec.ofChange fnExactColumnDegreesSpec)

/-- ITS FALSE NEIGHBOUR: 'it returns false'. Refute it at one input. -/
def fnExactColumnDegreesWrong : ChangeSpec := { name := "fnExactColumnDegrees", fn := fun _ => fun
  | [d1, d2] => { results := [.lit (.bool false)], args := [d1, d2] }
  | _ => none }
def FnExactColumnDegreesWrongFalsely : Prop := fnExactColumnDegreesRow.holds Try.pinned (OpenSpec.ofChange fnExactColumnDegreesWrong)

/- THE SECOND FORM. 'bulk': how many values and letters a reading holds, each counted each time it is reached (what is shared counts as often as it is met; a slice's spare places count too). A statement '..UptoSaid' is the law's where the arguments, and the package variables that the reading takes, are together of bulk at most 1048576: NARROWER than '..Said'. Prove '..Said' where nothing that the law and all that it calls make is longer than what came in: it says more and counts as full. Else prove '..UptoSaid'. A law counts once. -/
mutual
def uptoBulk {H : Type} : DataW H → Nat
  | .lit (.string bytes) => bytes.length + 1
  | .lit _ => 1
  | .nil => 1
  | .ptr d => uptoBulk d + 1
  | .slice elems spare => uptoBulkAll elems + uptoBulkAll spare + 1
  | .agg parts => uptoBulkAll parts + 1
  | .iface _ d => uptoBulk d + 1
  | .map entries => uptoBulkEntries entries + 1
  | .held _ => 1
def uptoBulkAll {H : Type} : List (DataW H) → Nat
  | [] => 0
  | d :: r => uptoBulk d + uptoBulkAll r
def uptoBulkEntries {H : Type} : List (Lit × DataW H) → Nat
  | [] => 0
  | x :: r => uptoBulkEntry x + uptoBulkEntries r
def uptoBulkEntry {H : Type} : Lit × DataW H → Nat
  | (.string bytes, d) => bytes.length + uptoBulk d + 1
  | (_, d) => uptoBulk d + 1
 end
def uptoSmall : (H : Type) → List (DataW H) → Bool := fun _ ds => decide (uptoBulkAll ds ≤ 1048576)
def OpenSpec.upto (s : _root_.Go.ChangeSpec) : _root_.Go.OpenSpec := { _root_.Go.OpenSpec.ofChange s with cond := some uptoSmall }

/-- 'laws.FnExactFormatPlanKind', WHERE WHAT IT READS IS OF BULK AT MOST 1048576: true; the input reads as it did. -/
def fnExactFormatPlanKindUptoRow : OpenClaim := { program := "ytnijkpbecgifjaa", sum := "ae675b124839d9f3d18fc476164e88eb7d58a189781a254de260cbaa2e45d0af", func := "loop.example/g01917/laws.FnExactFormatPlanKind", spec := "fnExactFormatPlanKind", apart := false, narrowed := true }
def FnExactFormatPlanKindUptoSaid : Prop := fnExactFormatPlanKindUptoRow.holds Try.pinned (OpenSpec.upto fnExactFormatPlanKindSpec)

/-- 'laws.FnExactFullRelation', WHERE WHAT IT READS IS OF BULK AT MOST 1048576: true; the input reads as it did. -/
def fnExactFullRelationUptoRow : OpenClaim := { program := "ytnijkpbecgifjaa", sum := "ae675b124839d9f3d18fc476164e88eb7d58a189781a254de260cbaa2e45d0af", func := "loop.example/g01917/laws.FnExactFullRelation", spec := "fnExactFullRelation", apart := false, narrowed := true }
def FnExactFullRelationUptoSaid : Prop := fnExactFullRelationUptoRow.holds Try.pinned (OpenSpec.upto fnExactFullRelationSpec)

/-- 'laws.FnExactEqualCertificates', WHERE WHAT IT READS IS OF BULK AT MOST 1048576: true; the input reads as it did. -/
def fnExactEqualCertificatesUptoRow : OpenClaim := { program := "ytnijkpbecgifjaa", sum := "ae675b124839d9f3d18fc476164e88eb7d58a189781a254de260cbaa2e45d0af", func := "loop.example/g01917/laws.FnExactEqualCertificates", spec := "fnExactEqualCertificates", apart := false, narrowed := true }
def FnExactEqualCertificatesUptoSaid : Prop := fnExactEqualCertificatesUptoRow.holds Try.pinned (OpenSpec.upto fnExactEqualCertificatesSpec)

/-- 'laws.FnExactDistinctCount', WHERE WHAT IT READS IS OF BULK AT MOST 1048576: true; the input reads as it did. -/
def fnExactDistinctCountUptoRow : OpenClaim := { program := "ytnijkpbecgifjaa", sum := "ae675b124839d9f3d18fc476164e88eb7d58a189781a254de260cbaa2e45d0af", func := "loop.example/g01917/laws.FnExactDistinctCount", spec := "fnExactDistinctCount", apart := false, narrowed := true }
def FnExactDistinctCountUptoSaid : Prop := fnExactDistinctCountUptoRow.holds Try.pinned (OpenSpec.upto fnExactDistinctCountSpec)

/-- 'laws.FnExactMaxColumnDegree', WHERE WHAT IT READS IS OF BULK AT MOST 1048576: true; the input reads as it did. -/
def fnExactMaxColumnDegreeUptoRow : OpenClaim := { program := "ytnijkpbecgifjaa", sum := "ae675b124839d9f3d18fc476164e88eb7d58a189781a254de260cbaa2e45d0af", func := "loop.example/g01917/laws.FnExactMaxColumnDegree", spec := "fnExactMaxColumnDegree", apart := false, narrowed := true }
def FnExactMaxColumnDegreeUptoSaid : Prop := fnExactMaxColumnDegreeUptoRow.holds Try.pinned (OpenSpec.upto fnExactMaxColumnDegreeSpec)

/-- 'laws.FnExactColumnDegrees', WHERE WHAT IT READS IS OF BULK AT MOST 1048576: true; the input reads as it did. -/
def fnExactColumnDegreesUptoRow : OpenClaim := { program := "ytnijkpbecgifjaa", sum := "ae675b124839d9f3d18fc476164e88eb7d58a189781a254de260cbaa2e45d0af", func := "loop.example/g01917/laws.FnExactColumnDegrees", spec := "fnExactColumnDegrees", apart := false, narrowed := true }
def FnExactColumnDegreesUptoSaid : Prop := fnExactColumnDegreesUptoRow.holds Try.pinned (OpenSpec.upto fnExactColumnDegreesSpec)

end Rows
end Go.Proofs.Ytnijkpbecgifjaa
