/-
  No cell of these rows narrows 'for every input' (looked for: loops, veiled, ifaces, maps, wideKeys, modest, calm, conditions, laid).
  DERIVED. THE GIVEN ROWS OF THIS SEAT. 12 by the template 'for every input the law returns true; each argument reads behind the call as it read before'; 0 by the template 'total and deterministic' (their statements: YtkmkbpphdalgoaaTotals.lean).
  GIVEN WITH THE SEED: the statements are not yours to turn. If you find one false, say at which input.
  Laid BY PROGRAM, IN A SANDBOX (cutbox-rows.mjs): the forced cells as the released guide's own fill.sh prints them over the translation 2a14a463c530a740… (all of the seat's roots in one cut). By AI agents, Wed Nov 11 2026. No macro, syntax, notation, axiom, sorry.
-/
import Derived.Test.YtkmkbpphdalgoaaChecked
import GoSem.Claim
import GoSem.ClaimJoined
import GoSem.ClaimMapViews
import Derived.JoinedTies
import Derived.KernelRfl
namespace Go.Proofs.Ytkmkbpphdalgoaa
/- THE CELL 'sum', in the pinned program and in every row, IS THE sha256 OF THE DUMP (.gsa) THAT YtkmkbpphdalgoaaProg.lean LOADS. Nothing in Lean hashes anything: it is a label: what it is worth is what the hold of that sum in a sandbox is worth. -/
noncomputable def Try.pinned : Pinned := { name := "ytkmkbpphdalgoaa", sum := "2a14a463c530a740bb292d42e2ef71942c3c120c41590caaeec8d002f4ca9818", checked := Try.checked }
namespace Rows
def none {H : Type} : Left H := { results := [], args := [] }

/-- 'laws.FnExactSkewedRelation': WHATEVER THE INPUT: true; the input reads as it did. -/
def fnExactSkewedRelationSpec : ChangeSpec := { name := "fnExactSkewedRelation", fn := fun _ => fun
  | [d] => { results := [.lit (.bool true)], args := [d] }
  | _ => none }
def fnExactSkewedRelationRow : OpenClaim := { program := "ytkmkbpphdalgoaa", sum := "2a14a463c530a740bb292d42e2ef71942c3c120c41590caaeec8d002f4ca9818", func := "loop.example/g01917/laws.FnExactSkewedRelation", spec := "fnExactSkewedRelation", recurses := true, apart := false }
def FnExactSkewedRelationSaid : Prop := fnExactSkewedRelationRow.holds Try.pinned (OpenSpec.ofChange fnExactSkewedRelationSpec)

/-- ITS FALSE NEIGHBOUR: 'it returns false'. Refute it at one input. -/
def fnExactSkewedRelationWrong : ChangeSpec := { name := "fnExactSkewedRelation", fn := fun _ => fun
  | [d] => { results := [.lit (.bool false)], args := [d] }
  | _ => none }
def FnExactSkewedRelationWrongFalsely : Prop := fnExactSkewedRelationRow.holds Try.pinned (OpenSpec.ofChange fnExactSkewedRelationWrong)

/-- 'laws.FnExactFormatCertificate': WHATEVER THE INPUT: true; the input reads as it did. -/
def fnExactFormatCertificateSpec : ChangeSpec := { name := "fnExactFormatCertificate", fn := fun _ => fun
  | [d] => { results := [.lit (.bool true)], args := [d] }
  | _ => none }
def fnExactFormatCertificateRow : OpenClaim := { program := "ytkmkbpphdalgoaa", sum := "2a14a463c530a740bb292d42e2ef71942c3c120c41590caaeec8d002f4ca9818", func := "loop.example/g01917/laws.FnExactFormatCertificate", spec := "fnExactFormatCertificate", recurses := true, apart := false }
def FnExactFormatCertificateSaid : Prop := fnExactFormatCertificateRow.holds Try.pinned (OpenSpec.ofChange fnExactFormatCertificateSpec)

/-- ITS FALSE NEIGHBOUR: 'it returns false'. Refute it at one input. -/
def fnExactFormatCertificateWrong : ChangeSpec := { name := "fnExactFormatCertificate", fn := fun _ => fun
  | [d] => { results := [.lit (.bool false)], args := [d] }
  | _ => none }
def FnExactFormatCertificateWrongFalsely : Prop := fnExactFormatCertificateRow.holds Try.pinned (OpenSpec.ofChange fnExactFormatCertificateWrong)

/-- 'laws.FnExactSplitHeavy': WHATEVER THE INPUT: true; the input reads as it did. -/
def fnExactSplitHeavySpec : ChangeSpec := { name := "fnExactSplitHeavy", fn := fun _ => fun
  | [d1, d2, d3] => { results := [.lit (.bool true)], args := [d1, d2, d3] }
  | _ => none }
def fnExactSplitHeavyRow : OpenClaim := { program := "ytkmkbpphdalgoaa", sum := "2a14a463c530a740bb292d42e2ef71942c3c120c41590caaeec8d002f4ca9818", func := "loop.example/g01917/laws.FnExactSplitHeavy", spec := "fnExactSplitHeavy", apart := false }
def FnExactSplitHeavySaid : Prop := fnExactSplitHeavyRow.holds Try.pinned (OpenSpec.ofChange fnExactSplitHeavySpec)

/-- ITS FALSE NEIGHBOUR: 'it returns false'. Refute it at one input. -/
def fnExactSplitHeavyWrong : ChangeSpec := { name := "fnExactSplitHeavy", fn := fun _ => fun
  | [d1, d2, d3] => { results := [.lit (.bool false)], args := [d1, d2, d3] }
  | _ => none }
def FnExactSplitHeavyWrongFalsely : Prop := fnExactSplitHeavyRow.holds Try.pinned (OpenSpec.ofChange fnExactSplitHeavyWrong)

/-- 'laws.FnExactTightRowCount': WHATEVER THE INPUT: true; the input reads as it did. -/
def fnExactTightRowCountSpec : ChangeSpec := { name := "fnExactTightRowCount", fn := fun _ => fun
  | [d1, d2, d3] => { results := [.lit (.bool true)], args := [d1, d2, d3] }
  | _ => none }
def fnExactTightRowCountRow : OpenClaim := { program := "ytkmkbpphdalgoaa", sum := "2a14a463c530a740bb292d42e2ef71942c3c120c41590caaeec8d002f4ca9818", func := "loop.example/g01917/laws.FnExactTightRowCount", spec := "fnExactTightRowCount", apart := false }
def FnExactTightRowCountSaid : Prop := fnExactTightRowCountRow.holds Try.pinned (OpenSpec.ofChange fnExactTightRowCountSpec)

/-- ITS FALSE NEIGHBOUR: 'it returns false'. Refute it at one input. -/
def fnExactTightRowCountWrong : ChangeSpec := { name := "fnExactTightRowCount", fn := fun _ => fun
  | [d1, d2, d3] => { results := [.lit (.bool false)], args := [d1, d2, d3] }
  | _ => none }
def FnExactTightRowCountWrongFalsely : Prop := fnExactTightRowCountRow.holds Try.pinned (OpenSpec.ofChange fnExactTightRowCountWrong)

/-- 'laws.FnColumnStatistics': WHATEVER THE INPUT: true; the input reads as it did. -/
def fnColumnStatisticsSpec : ChangeSpec := { name := "fnColumnStatistics", fn := fun _ => fun
  | [d] => { results := [.lit (.bool true)], args := [d] }
  | _ => none }
def fnColumnStatisticsRow : OpenClaim := { program := "ytkmkbpphdalgoaa", sum := "2a14a463c530a740bb292d42e2ef71942c3c120c41590caaeec8d002f4ca9818", func := "loop.example/g01917/laws.FnColumnStatistics", spec := "fnColumnStatistics", recurses := true, apart := false }
def FnColumnStatisticsSaid : Prop := fnColumnStatisticsRow.holds Try.pinned (OpenSpec.ofChange fnColumnStatisticsSpec)

/-- ITS FALSE NEIGHBOUR: 'it returns false'. Refute it at one input. -/
def fnColumnStatisticsWrong : ChangeSpec := { name := "fnColumnStatistics", fn := fun _ => fun
  | [d] => { results := [.lit (.bool false)], args := [d] }
  | _ => none }
def FnColumnStatisticsWrongFalsely : Prop := fnColumnStatisticsRow.holds Try.pinned (OpenSpec.ofChange fnColumnStatisticsWrong)

/-- 'laws.FnExactIsValidHistory': WHATEVER THE INPUT: true; the input reads as it did. -/
def fnExactIsValidHistorySpec : ChangeSpec := { name := "fnExactIsValidHistory", fn := fun _ => fun
  | [d] => { results := [.lit (.bool true)], args := [d] }
  | _ => none }
def fnExactIsValidHistoryRow : OpenClaim := { program := "ytkmkbpphdalgoaa", sum := "2a14a463c530a740bb292d42e2ef71942c3c120c41590caaeec8d002f4ca9818", func := "loop.example/g01917/laws.FnExactIsValidHistory", spec := "fnExactIsValidHistory", apart := false }
def FnExactIsValidHistorySaid : Prop := fnExactIsValidHistoryRow.holds Try.pinned (OpenSpec.ofChange fnExactIsValidHistorySpec)

/-- ITS FALSE NEIGHBOUR: 'it returns false'. Refute it at one input. -/
def fnExactIsValidHistoryWrong : ChangeSpec := { name := "fnExactIsValidHistory", fn := fun _ => fun
  | [d] => { results := [.lit (.bool false)], args := [d] }
  | _ => none }
def FnExactIsValidHistoryWrongFalsely : Prop := fnExactIsValidHistoryRow.holds Try.pinned (OpenSpec.ofChange fnExactIsValidHistoryWrong)

/-- 'laws.FnExactFDVariables': WHATEVER THE INPUT: true; the input reads as it did. -/
def fnExactFDVariablesSpec : ChangeSpec := { name := "fnExactFDVariables", fn := fun _ => fun
  | [d1, d2] => { results := [.lit (.bool true)], args := [d1, d2] }
  | _ => none }
def fnExactFDVariablesRow : OpenClaim := { program := "ytkmkbpphdalgoaa", sum := "2a14a463c530a740bb292d42e2ef71942c3c120c41590caaeec8d002f4ca9818", func := "loop.example/g01917/laws.FnExactFDVariables", spec := "fnExactFDVariables", apart := false }
def FnExactFDVariablesSaid : Prop := fnExactFDVariablesRow.holds Try.pinned (OpenSpec.ofChange fnExactFDVariablesSpec)

/-- ITS FALSE NEIGHBOUR: 'it returns false'. Refute it at one input. -/
def fnExactFDVariablesWrong : ChangeSpec := { name := "fnExactFDVariables", fn := fun _ => fun
  | [d1, d2] => { results := [.lit (.bool false)], args := [d1, d2] }
  | _ => none }
def FnExactFDVariablesWrongFalsely : Prop := fnExactFDVariablesRow.holds Try.pinned (OpenSpec.ofChange fnExactFDVariablesWrong)

/-- 'laws.FnExactIsValidFD': WHATEVER THE INPUT: true; the input reads as it did. -/
def fnExactIsValidFDSpec : ChangeSpec := { name := "fnExactIsValidFD", fn := fun _ => fun
  | [d1, d2] => { results := [.lit (.bool true)], args := [d1, d2] }
  | _ => none }
def fnExactIsValidFDRow : OpenClaim := { program := "ytkmkbpphdalgoaa", sum := "2a14a463c530a740bb292d42e2ef71942c3c120c41590caaeec8d002f4ca9818", func := "loop.example/g01917/laws.FnExactIsValidFD", spec := "fnExactIsValidFD", apart := false }
def FnExactIsValidFDSaid : Prop := fnExactIsValidFDRow.holds Try.pinned (OpenSpec.ofChange fnExactIsValidFDSpec)

/-- ITS FALSE NEIGHBOUR: 'it returns false'. Refute it at one input. -/
def fnExactIsValidFDWrong : ChangeSpec := { name := "fnExactIsValidFD", fn := fun _ => fun
  | [d1, d2] => { results := [.lit (.bool false)], args := [d1, d2] }
  | _ => none }
def FnExactIsValidFDWrongFalsely : Prop := fnExactIsValidFDRow.holds Try.pinned (OpenSpec.ofChange fnExactIsValidFDWrong)

/-- 'laws.FnExactActiveDomain': WHATEVER THE INPUT: true; the input reads as it did. -/
def fnExactActiveDomainSpec : ChangeSpec := { name := "fnExactActiveDomain", fn := fun _ => fun
  | [d] => { results := [.lit (.bool true)], args := [d] }
  | _ => none }
def fnExactActiveDomainRow : OpenClaim := { program := "ytkmkbpphdalgoaa", sum := "2a14a463c530a740bb292d42e2ef71942c3c120c41590caaeec8d002f4ca9818", func := "loop.example/g01917/laws.FnExactActiveDomain", spec := "fnExactActiveDomain", apart := false }
def FnExactActiveDomainSaid : Prop := fnExactActiveDomainRow.holds Try.pinned (OpenSpec.ofChange fnExactActiveDomainSpec)

/-- ITS FALSE NEIGHBOUR: 'it returns false'. Refute it at one input. -/
def fnExactActiveDomainWrong : ChangeSpec := { name := "fnExactActiveDomain", fn := fun _ => fun
  | [d] => { results := [.lit (.bool false)], args := [d] }
  | _ => none }
def FnExactActiveDomainWrongFalsely : Prop := fnExactActiveDomainRow.holds Try.pinned (OpenSpec.ofChange fnExactActiveDomainWrong)

/-- 'laws.FnDependencyViolation': WHATEVER THE INPUT: true; the input reads as it did. -/
def fnDependencyViolationSpec : ChangeSpec := { name := "fnDependencyViolation", fn := fun _ => fun
  | [d] => { results := [.lit (.bool true)], args := [d] }
  | _ => none }
def fnDependencyViolationRow : OpenClaim := { program := "ytkmkbpphdalgoaa", sum := "2a14a463c530a740bb292d42e2ef71942c3c120c41590caaeec8d002f4ca9818", func := "loop.example/g01917/laws.FnDependencyViolation", spec := "fnDependencyViolation", recurses := true, apart := false }
def FnDependencyViolationSaid : Prop := fnDependencyViolationRow.holds Try.pinned (OpenSpec.ofChange fnDependencyViolationSpec)

/-- ITS FALSE NEIGHBOUR: 'it returns false'. Refute it at one input. -/
def fnDependencyViolationWrong : ChangeSpec := { name := "fnDependencyViolation", fn := fun _ => fun
  | [d] => { results := [.lit (.bool false)], args := [d] }
  | _ => none }
def FnDependencyViolationWrongFalsely : Prop := fnDependencyViolationRow.holds Try.pinned (OpenSpec.ofChange fnDependencyViolationWrong)

/-- 'laws.FnExactFDHolds': WHATEVER THE INPUT: true; the input reads as it did. -/
def fnExactFDHoldsSpec : ChangeSpec := { name := "fnExactFDHolds", fn := fun _ => fun
  | [d1, d2] => { results := [.lit (.bool true)], args := [d1, d2] }
  | _ => none }
def fnExactFDHoldsRow : OpenClaim := { program := "ytkmkbpphdalgoaa", sum := "2a14a463c530a740bb292d42e2ef71942c3c120c41590caaeec8d002f4ca9818", func := "loop.example/g01917/laws.FnExactFDHolds", spec := "fnExactFDHolds", apart := false }
def FnExactFDHoldsSaid : Prop := fnExactFDHoldsRow.holds Try.pinned (OpenSpec.ofChange fnExactFDHoldsSpec)

/-- ITS FALSE NEIGHBOUR: 'it returns false'. Refute it at one input. -/
def fnExactFDHoldsWrong : ChangeSpec := { name := "fnExactFDHolds", fn := fun _ => fun
  | [d1, d2] => { results := [.lit (.bool false)], args := [d1, d2] }
  | _ => none }
def FnExactFDHoldsWrongFalsely : Prop := fnExactFDHoldsRow.holds Try.pinned (OpenSpec.ofChange fnExactFDHoldsWrong)

/-- 'laws.FnExactFDClosure': WHATEVER THE INPUT: true; the input reads as it did. -/
def fnExactFDClosureSpec : ChangeSpec := { name := "fnExactFDClosure", fn := fun _ => fun
  | [d1, d2, d3] => { results := [.lit (.bool true)], args := [d1, d2, d3] }
  | _ => none }
def fnExactFDClosureRow : OpenClaim := { program := "ytkmkbpphdalgoaa", sum := "2a14a463c530a740bb292d42e2ef71942c3c120c41590caaeec8d002f4ca9818", func := "loop.example/g01917/laws.FnExactFDClosure", spec := "fnExactFDClosure", apart := false }
def FnExactFDClosureSaid : Prop := fnExactFDClosureRow.holds Try.pinned (OpenSpec.ofChange fnExactFDClosureSpec)

/-- ITS FALSE NEIGHBOUR: 'it returns false'. Refute it at one input. -/
def fnExactFDClosureWrong : ChangeSpec := { name := "fnExactFDClosure", fn := fun _ => fun
  | [d1, d2, d3] => { results := [.lit (.bool false)], args := [d1, d2, d3] }
  | _ => none }
def FnExactFDClosureWrongFalsely : Prop := fnExactFDClosureRow.holds Try.pinned (OpenSpec.ofChange fnExactFDClosureWrong)

/- THE SECOND FORM. 'bulk': how many values and letters a reading holds, each counted each time it is reached (what is shared counts as often as it is met; a slice's spare places count too). A statement '..UptoSaid' is the law's where the arguments, and the package variables that the reading takes, are together of bulk at most 1048576: NARROWER than '..Said'. Prove '..Said' where nothing that the law and all that it calls make is longer than what came in: it says more and counts as full. Else prove '..UptoSaid'. A law counts once. -/
mutual
def uptoBulk {H : Type} : DataW H → Nat
  | .lit (.string bytes) => bytes.length + 1
  | .lit _ => 1
  | .nil => 1
  | .ptr d => uptoBulk d + 1
  | .slice elems spare => uptoBulkAll elems + uptoBulkAll spare + 1
  | .agg parts => uptoBulkAll parts + 1
  | .iface _ d => uptoBulk d + 1
  | .map entries => uptoBulkEntries entries + 1
  | .held _ => 1
def uptoBulkAll {H : Type} : List (DataW H) → Nat
  | [] => 0
  | d :: r => uptoBulk d + uptoBulkAll r
def uptoBulkEntries {H : Type} : List (Lit × DataW H) → Nat
  | [] => 0
  | x :: r => uptoBulkEntry x + uptoBulkEntries r
def uptoBulkEntry {H : Type} : Lit × DataW H → Nat
  | (.string bytes, d) => bytes.length + uptoBulk d + 1
  | (_, d) => uptoBulk d + 1
 end
def uptoSmall : (H : Type) → List (DataW H) → Bool := fun _ ds => decide (uptoBulkAll ds ≤ 1048576)
def OpenSpec.upto (s : _root_.Go.ChangeSpec) : _root_.Go.OpenSpec := { _root_.Go.OpenSpec.ofChange s with cond := some uptoSmall }

/-- 'laws.FnExactSkewedRelation', WHERE WHAT IT READS IS OF BULK AT MOST 1048576: true; the input reads as it did. -/
def fnExactSkewedRelationUptoRow : OpenClaim := { program := "ytkmkbpphdalgoaa", sum := "2a14a463c530a740bb292d42e2ef71942c3c120c41590caaeec8d002f4ca9818", func := "loop.example/g01917/laws.FnExactSkewedRelation", spec := "fnExactSkewedRelation", recurses := true, apart := false, narrowed := true }
def FnExactSkewedRelationUptoSaid : Prop := fnExactSkewedRelationUptoRow.holds Try.pinned (OpenSpec.upto fnExactSkewedRelationSpec)

/-- 'laws.FnExactFormatCertificate', WHERE WHAT IT READS IS OF BULK AT MOST 1048576: true; the input reads as it did. -/
def fnExactFormatCertificateUptoRow : OpenClaim := { program := "ytkmkbpphdalgoaa", sum := "2a14a463c530a740bb292d42e2ef71942c3c120c41590caaeec8d002f4ca9818", func := "loop.example/g01917/laws.FnExactFormatCertificate", spec := "fnExactFormatCertificate", recurses := true, apart := false, narrowed := true }
def FnExactFormatCertificateUptoSaid : Prop := fnExactFormatCertificateUptoRow.holds Try.pinned (OpenSpec.upto fnExactFormatCertificateSpec)

/-- 'laws.FnExactSplitHeavy', WHERE WHAT IT READS IS OF BULK AT MOST 1048576: true; the input reads as it did. -/
def fnExactSplitHeavyUptoRow : OpenClaim := { program := "ytkmkbpphdalgoaa", sum := "2a14a463c530a740bb292d42e2ef71942c3c120c41590caaeec8d002f4ca9818", func := "loop.example/g01917/laws.FnExactSplitHeavy", spec := "fnExactSplitHeavy", apart := false, narrowed := true }
def FnExactSplitHeavyUptoSaid : Prop := fnExactSplitHeavyUptoRow.holds Try.pinned (OpenSpec.upto fnExactSplitHeavySpec)

/-- 'laws.FnExactTightRowCount', WHERE WHAT IT READS IS OF BULK AT MOST 1048576: true; the input reads as it did. -/
def fnExactTightRowCountUptoRow : OpenClaim := { program := "ytkmkbpphdalgoaa", sum := "2a14a463c530a740bb292d42e2ef71942c3c120c41590caaeec8d002f4ca9818", func := "loop.example/g01917/laws.FnExactTightRowCount", spec := "fnExactTightRowCount", apart := false, narrowed := true }
def FnExactTightRowCountUptoSaid : Prop := fnExactTightRowCountUptoRow.holds Try.pinned (OpenSpec.upto fnExactTightRowCountSpec)

/-- 'laws.FnColumnStatistics', WHERE WHAT IT READS IS OF BULK AT MOST 1048576: true; the input reads as it did. -/
def fnColumnStatisticsUptoRow : OpenClaim := { program := "ytkmkbpphdalgoaa", sum := "2a14a463c530a740bb292d42e2ef71942c3c120c41590caaeec8d002f4ca9818", func := "loop.example/g01917/laws.FnColumnStatistics", spec := "fnColumnStatistics", recurses := true, apart := false, narrowed := true }
def FnColumnStatisticsUptoSaid : Prop := fnColumnStatisticsUptoRow.holds Try.pinned (OpenSpec.upto fnColumnStatisticsSpec)

/-- 'laws.FnExactIsValidHistory', WHERE WHAT IT READS IS OF BULK AT MOST 1048576: true; the input reads as it did. -/
def fnExactIsValidHistoryUptoRow : OpenClaim := { program := "ytkmkbpphdalgoaa", sum := "2a14a463c530a740bb292d42e2ef71942c3c120c41590caaeec8d002f4ca9818", func := "loop.example/g01917/laws.FnExactIsValidHistory", spec := "fnExactIsValidHistory", apart := false, narrowed := true }
def FnExactIsValidHistoryUptoSaid : Prop := fnExactIsValidHistoryUptoRow.holds Try.pinned (OpenSpec.upto fnExactIsValidHistorySpec)

/-- 'laws.FnExactFDVariables', WHERE WHAT IT READS IS OF BULK AT MOST 1048576: true; the input reads as it did. -/
def fnExactFDVariablesUptoRow : OpenClaim := { program := "ytkmkbpphdalgoaa", sum := "2a14a463c530a740bb292d42e2ef71942c3c120c41590caaeec8d002f4ca9818", func := "loop.example/g01917/laws.FnExactFDVariables", spec := "fnExactFDVariables", apart := false, narrowed := true }
def FnExactFDVariablesUptoSaid : Prop := fnExactFDVariablesUptoRow.holds Try.pinned (OpenSpec.upto fnExactFDVariablesSpec)

/-- 'laws.FnExactIsValidFD', WHERE WHAT IT READS IS OF BULK AT MOST 1048576: true; the input reads as it did. -/
def fnExactIsValidFDUptoRow : OpenClaim := { program := "ytkmkbpphdalgoaa", sum := "2a14a463c530a740bb292d42e2ef71942c3c120c41590caaeec8d002f4ca9818", func := "loop.example/g01917/laws.FnExactIsValidFD", spec := "fnExactIsValidFD", apart := false, narrowed := true }
def FnExactIsValidFDUptoSaid : Prop := fnExactIsValidFDUptoRow.holds Try.pinned (OpenSpec.upto fnExactIsValidFDSpec)

/-- 'laws.FnExactActiveDomain', WHERE WHAT IT READS IS OF BULK AT MOST 1048576: true; the input reads as it did. -/
def fnExactActiveDomainUptoRow : OpenClaim := { program := "ytkmkbpphdalgoaa", sum := "2a14a463c530a740bb292d42e2ef71942c3c120c41590caaeec8d002f4ca9818", func := "loop.example/g01917/laws.FnExactActiveDomain", spec := "fnExactActiveDomain", apart := false, narrowed := true }
def FnExactActiveDomainUptoSaid : Prop := fnExactActiveDomainUptoRow.holds Try.pinned (OpenSpec.upto fnExactActiveDomainSpec)

/-- 'laws.FnDependencyViolation', WHERE WHAT IT READS IS OF BULK AT MOST 1048576: true; the input reads as it did. -/
def fnDependencyViolationUptoRow : OpenClaim := { program := "ytkmkbpphdalgoaa", sum := "2a14a463c530a740bb292d42e2ef71942c3c120c41590caaeec8d002f4ca9818", func := "loop.example/g01917/laws.FnDependencyViolation", spec := "fnDependencyViolation", recurses := true, apart := false, narrowed := true }
def FnDependencyViolationUptoSaid : Prop := fnDependencyViolationUptoRow.holds Try.pinned (OpenSpec.upto fnDependencyViolationSpec)

/-- 'laws.FnExactFDHolds', WHERE WHAT IT READS IS OF BULK AT MOST 1048576: true; the input reads as it did. -/
def fnExactFDHoldsUptoRow : OpenClaim := { program := "ytkmkbpphdalgoaa", sum := "2a14a463c530a740bb292d42e2ef71942c3c120c41590caaeec8d002f4ca9818", func := "loop.example/g01917/laws.FnExactFDHolds", spec := "fnExactFDHolds", apart := false, narrowed := true }
def FnExactFDHoldsUptoSaid : Prop := fnExactFDHoldsUptoRow.holds Try.pinned (OpenSpec.upto fnExactFDHoldsSpec)

/-- 'laws.FnExactFDClosure', WHERE WHAT IT READS IS OF BULK AT MOST 1048576: true; the input reads as it did. -/
def fnExactFDClosureUptoRow : OpenClaim := { program := "ytkmkbpphdalgoaa", sum := "2a14a463c530a740bb292d42e2ef71942c3c120c41590caaeec8d002f4ca9818", func := "loop.example/g01917/laws.FnExactFDClosure", spec := "fnExactFDClosure", apart := false, narrowed := true }
def FnExactFDClosureUptoSaid : Prop := fnExactFDClosureUptoRow.holds Try.pinned (OpenSpec.upto fnExactFDClosureSpec)

end Rows
end Go.Proofs.Ytkmkbpphdalgoaa
