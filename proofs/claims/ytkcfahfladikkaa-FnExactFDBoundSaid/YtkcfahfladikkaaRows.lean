/-
  No cell of these rows narrows 'for every input' (looked for: loops, veiled, ifaces, maps, wideKeys, modest, calm, conditions, laid).
  DERIVED. THE GIVEN ROWS OF THIS SEAT. 10 by the template 'for every input the law returns true; each argument reads behind the call as it read before'; 0 by the template 'total and deterministic' (their statements: YtkcfahfladikkaaTotals.lean).
  GIVEN WITH THE SEED: the statements are not yours to turn. If you find one false, say at which input.
  Laid BY PROGRAM, IN A SANDBOX (cutbox-rows.mjs): the forced cells as the released guide's own fill.sh prints them over the translation 666de5a92b82db51… (all of the seat's roots in one cut). By AI agents, Wed Nov 11 2026. No macro, syntax, notation, axiom, sorry.
-/
import Derived.Test.YtkcfahfladikkaaChecked
import GoSem.Claim
import GoSem.ClaimJoined
import GoSem.ClaimMapViews
import Derived.JoinedTies
import Derived.KernelRfl
namespace Go.Proofs.Ytkcfahfladikkaa
/- THE CELL 'sum', in the pinned program and in every row, IS THE sha256 OF THE DUMP (.gsa) THAT YtkcfahfladikkaaProg.lean LOADS. Nothing in Lean hashes anything: it is a label: what it is worth is what the hold of that sum in a sandbox is worth. -/
noncomputable def Try.pinned : Pinned := { name := "ytkcfahfladikkaa", sum := "666de5a92b82db5190cf0f088d76518a81baf7018501418897fae1f2b0e5b1d2", checked := Try.checked }
namespace Rows
def none {H : Type} : Left H := { results := [], args := [] }

/-- 'laws.FnExactFDViolation': WHATEVER THE INPUT: true; the input reads as it did. -/
def fnExactFDViolationSpec : ChangeSpec := { name := "fnExactFDViolation", fn := fun _ => fun
  | [d1, d2] => { results := [.lit (.bool true)], args := [d1, d2] }
  | _ => none }
def fnExactFDViolationRow : OpenClaim := { program := "ytkcfahfladikkaa", sum := "666de5a92b82db5190cf0f088d76518a81baf7018501418897fae1f2b0e5b1d2", func := "loop.example/g01917/laws.FnExactFDViolation", spec := "fnExactFDViolation", apart := false }
def FnExactFDViolationSaid : Prop := fnExactFDViolationRow.holds Try.pinned (OpenSpec.ofChange fnExactFDViolationSpec)

/-- ITS FALSE NEIGHBOUR: 'it returns false'. Refute it at one input. -/
def fnExactFDViolationWrong : ChangeSpec := { name := "fnExactFDViolation", fn := fun _ => fun
  | [d1, d2] => { results := [.lit (.bool false)], args := [d1, d2] }
  | _ => none }
def FnExactFDViolationWrongFalsely : Prop := fnExactFDViolationRow.holds Try.pinned (OpenSpec.ofChange fnExactFDViolationWrong)

/-- 'laws.FnExactSnapshotAt': WHATEVER THE INPUT: true; the input reads as it did. -/
def fnExactSnapshotAtSpec : ChangeSpec := { name := "fnExactSnapshotAt", fn := fun _ => fun
  | [d1, d2] => { results := [.lit (.bool true)], args := [d1, d2] }
  | _ => none }
def fnExactSnapshotAtRow : OpenClaim := { program := "ytkcfahfladikkaa", sum := "666de5a92b82db5190cf0f088d76518a81baf7018501418897fae1f2b0e5b1d2", func := "loop.example/g01917/laws.FnExactSnapshotAt", spec := "fnExactSnapshotAt", apart := false }
def FnExactSnapshotAtSaid : Prop := fnExactSnapshotAtRow.holds Try.pinned (OpenSpec.ofChange fnExactSnapshotAtSpec)

/-- ITS FALSE NEIGHBOUR: 'it returns false'. Refute it at one input. -/
def fnExactSnapshotAtWrong : ChangeSpec := { name := "fnExactSnapshotAt", fn := fun _ => fun
  | [d1, d2] => { results := [.lit (.bool false)], args := [d1, d2] }
  | _ => none }
def FnExactSnapshotAtWrongFalsely : Prop := fnExactSnapshotAtRow.holds Try.pinned (OpenSpec.ofChange fnExactSnapshotAtWrong)

/-- 'laws.FnExactParseCertificate': WHATEVER THE INPUT: true; the input reads as it did. -/
def fnExactParseCertificateSpec : ChangeSpec := { name := "fnExactParseCertificate", fn := fun _ => fun
  | [d] => { results := [.lit (.bool true)], args := [d] }
  | _ => none }
def fnExactParseCertificateRow : OpenClaim := { program := "ytkcfahfladikkaa", sum := "666de5a92b82db5190cf0f088d76518a81baf7018501418897fae1f2b0e5b1d2", func := "loop.example/g01917/laws.FnExactParseCertificate", spec := "fnExactParseCertificate", recurses := true, apart := false }
def FnExactParseCertificateSaid : Prop := fnExactParseCertificateRow.holds Try.pinned (OpenSpec.ofChange fnExactParseCertificateSpec)

/-- ITS FALSE NEIGHBOUR: 'it returns false'. Refute it at one input. -/
def fnExactParseCertificateWrong : ChangeSpec := { name := "fnExactParseCertificate", fn := fun _ => fun
  | [d] => { results := [.lit (.bool false)], args := [d] }
  | _ => none }
def FnExactParseCertificateWrongFalsely : Prop := fnExactParseCertificateRow.holds Try.pinned (OpenSpec.ofChange fnExactParseCertificateWrong)

/-- 'laws.FnExactEqualNotifiers': WHATEVER THE INPUT: true; the input reads as it did. -/
def fnExactEqualNotifiersSpec : ChangeSpec := { name := "fnExactEqualNotifiers", fn := fun _ => fun
  | [d1, d2] => { results := [.lit (.bool true)], args := [d1, d2] }
  | _ => none }
def fnExactEqualNotifiersRow : OpenClaim := { program := "ytkcfahfladikkaa", sum := "666de5a92b82db5190cf0f088d76518a81baf7018501418897fae1f2b0e5b1d2", func := "loop.example/g01917/laws.FnExactEqualNotifiers", spec := "fnExactEqualNotifiers", apart := false }
def FnExactEqualNotifiersSaid : Prop := fnExactEqualNotifiersRow.holds Try.pinned (OpenSpec.ofChange fnExactEqualNotifiersSpec)

/-- ITS FALSE NEIGHBOUR: 'it returns false'. Refute it at one input. -/
def fnExactEqualNotifiersWrong : ChangeSpec := { name := "fnExactEqualNotifiers", fn := fun _ => fun
  | [d1, d2] => { results := [.lit (.bool false)], args := [d1, d2] }
  | _ => none }
def FnExactEqualNotifiersWrongFalsely : Prop := fnExactEqualNotifiersRow.holds Try.pinned (OpenSpec.ofChange fnExactEqualNotifiersWrong)

/-- 'laws.FnExactIsValidPlan': WHATEVER THE INPUT: true; the input reads as it did. -/
def fnExactIsValidPlanSpec : ChangeSpec := { name := "fnExactIsValidPlan", fn := fun _ => fun
  | [d1, d2] => { results := [.lit (.bool true)], args := [d1, d2] }
  | _ => none }
def fnExactIsValidPlanRow : OpenClaim := { program := "ytkcfahfladikkaa", sum := "666de5a92b82db5190cf0f088d76518a81baf7018501418897fae1f2b0e5b1d2", func := "loop.example/g01917/laws.FnExactIsValidPlan", spec := "fnExactIsValidPlan", apart := false }
def FnExactIsValidPlanSaid : Prop := fnExactIsValidPlanRow.holds Try.pinned (OpenSpec.ofChange fnExactIsValidPlanSpec)

/-- ITS FALSE NEIGHBOUR: 'it returns false'. Refute it at one input. -/
def fnExactIsValidPlanWrong : ChangeSpec := { name := "fnExactIsValidPlan", fn := fun _ => fun
  | [d1, d2] => { results := [.lit (.bool false)], args := [d1, d2] }
  | _ => none }
def FnExactIsValidPlanWrongFalsely : Prop := fnExactIsValidPlanRow.holds Try.pinned (OpenSpec.ofChange fnExactIsValidPlanWrong)

/-- 'laws.FnExactNewNotifier': WHATEVER THE INPUT: true; the input reads as it did. -/
def fnExactNewNotifierSpec : ChangeSpec := { name := "fnExactNewNotifier", fn := fun _ => fun
  | [d] => { results := [.lit (.bool true)], args := [d] }
  | _ => none }
def fnExactNewNotifierRow : OpenClaim := { program := "ytkcfahfladikkaa", sum := "666de5a92b82db5190cf0f088d76518a81baf7018501418897fae1f2b0e5b1d2", func := "loop.example/g01917/laws.FnExactNewNotifier", spec := "fnExactNewNotifier", apart := false }
def FnExactNewNotifierSaid : Prop := fnExactNewNotifierRow.holds Try.pinned (OpenSpec.ofChange fnExactNewNotifierSpec)

/-- ITS FALSE NEIGHBOUR: 'it returns false'. Refute it at one input. -/
def fnExactNewNotifierWrong : ChangeSpec := { name := "fnExactNewNotifier", fn := fun _ => fun
  | [d] => { results := [.lit (.bool false)], args := [d] }
  | _ => none }
def FnExactNewNotifierWrongFalsely : Prop := fnExactNewNotifierRow.holds Try.pinned (OpenSpec.ofChange fnExactNewNotifierWrong)

/-- 'laws.FnExactExplainPlan': WHATEVER THE INPUT: true; the input reads as it did. -/
def fnExactExplainPlanSpec : ChangeSpec := { name := "fnExactExplainPlan", fn := fun _ => fun
  | [d1, d2] => { results := [.lit (.bool true)], args := [d1, d2] }
  | _ => none }
def fnExactExplainPlanRow : OpenClaim := { program := "ytkcfahfladikkaa", sum := "666de5a92b82db5190cf0f088d76518a81baf7018501418897fae1f2b0e5b1d2", func := "loop.example/g01917/laws.FnExactExplainPlan", spec := "fnExactExplainPlan", recurses := true, apart := false }
def FnExactExplainPlanSaid : Prop := fnExactExplainPlanRow.holds Try.pinned (OpenSpec.ofChange fnExactExplainPlanSpec)

/-- ITS FALSE NEIGHBOUR: 'it returns false'. Refute it at one input. -/
def fnExactExplainPlanWrong : ChangeSpec := { name := "fnExactExplainPlan", fn := fun _ => fun
  | [d1, d2] => { results := [.lit (.bool false)], args := [d1, d2] }
  | _ => none }
def FnExactExplainPlanWrongFalsely : Prop := fnExactExplainPlanRow.holds Try.pinned (OpenSpec.ofChange fnExactExplainPlanWrong)

/-- 'laws.FnExactOpenCursor': WHATEVER THE INPUT: true; the input reads as it did. -/
def fnExactOpenCursorSpec : ChangeSpec := { name := "fnExactOpenCursor", fn := fun _ => fun
  | [d1, d2, d3] => { results := [.lit (.bool true)], args := [d1, d2, d3] }
  | _ => none }
def fnExactOpenCursorRow : OpenClaim := { program := "ytkcfahfladikkaa", sum := "666de5a92b82db5190cf0f088d76518a81baf7018501418897fae1f2b0e5b1d2", func := "loop.example/g01917/laws.FnExactOpenCursor", spec := "fnExactOpenCursor", apart := false }
def FnExactOpenCursorSaid : Prop := fnExactOpenCursorRow.holds Try.pinned (OpenSpec.ofChange fnExactOpenCursorSpec)

/-- ITS FALSE NEIGHBOUR: 'it returns false'. Refute it at one input. -/
def fnExactOpenCursorWrong : ChangeSpec := { name := "fnExactOpenCursor", fn := fun _ => fun
  | [d1, d2, d3] => { results := [.lit (.bool false)], args := [d1, d2, d3] }
  | _ => none }
def FnExactOpenCursorWrongFalsely : Prop := fnExactOpenCursorRow.holds Try.pinned (OpenSpec.ofChange fnExactOpenCursorWrong)

/-- 'laws.FnExactDegreeBound': WHATEVER THE INPUT: true; the input reads as it did. -/
def fnExactDegreeBoundSpec : ChangeSpec := { name := "fnExactDegreeBound", fn := fun _ => fun
  | [d1, d2, d3] => { results := [.lit (.bool true)], args := [d1, d2, d3] }
  | _ => none }
def fnExactDegreeBoundRow : OpenClaim := { program := "ytkcfahfladikkaa", sum := "666de5a92b82db5190cf0f088d76518a81baf7018501418897fae1f2b0e5b1d2", func := "loop.example/g01917/laws.FnExactDegreeBound", spec := "fnExactDegreeBound", recurses := true, apart := false }
def FnExactDegreeBoundSaid : Prop := fnExactDegreeBoundRow.holds Try.pinned (OpenSpec.ofChange fnExactDegreeBoundSpec)

/-- ITS FALSE NEIGHBOUR: 'it returns false'. Refute it at one input. -/
def fnExactDegreeBoundWrong : ChangeSpec := { name := "fnExactDegreeBound", fn := fun _ => fun
  | [d1, d2, d3] => { results := [.lit (.bool false)], args := [d1, d2, d3] }
  | _ => none }
def FnExactDegreeBoundWrongFalsely : Prop := fnExactDegreeBoundRow.holds Try.pinned (OpenSpec.ofChange fnExactDegreeBoundWrong)

/-- 'laws.FnExactFDBound': WHATEVER THE INPUT: true; the input reads as it did. -/
def fnExactFDBoundSpec : ChangeSpec := { name := "fnExactFDBound", fn := fun _ => fun
  | [d1, d2, d3] => { results := [.lit (.bool true)], args := [d1, d2, d3] }
  | _ => none }
def fnExactFDBoundRow : OpenClaim := { program := "ytkcfahfladikkaa", sum := "666de5a92b82db5190cf0f088d76518a81baf7018501418897fae1f2b0e5b1d2", func := "loop.example/g01917/laws.FnExactFDBound", spec := "fnExactFDBound", recurses := true, apart := false }
def FnExactFDBoundSaid : Prop := fnExactFDBoundRow.holds Try.pinned (OpenSpec.ofChange fnExactFDBoundSpec)

/-- ITS FALSE NEIGHBOUR: 'it returns false'. Refute it at one input. -/
def fnExactFDBoundWrong : ChangeSpec := { name := "fnExactFDBound", fn := fun _ => fun
  | [d1, d2, d3] => { results := [.lit (.bool false)], args := [d1, d2, d3] }
  | _ => none }
def FnExactFDBoundWrongFalsely : Prop := fnExactFDBoundRow.holds Try.pinned (OpenSpec.ofChange fnExactFDBoundWrong)

/- THE SECOND FORM. 'bulk': how many values and letters a reading holds, each counted each time it is reached (what is shared counts as often as it is met; a slice's spare places count too). A statement '..UptoSaid' is the law's where the arguments, and the package variables that the reading takes, are together of bulk at most 1048576: NARROWER than '..Said'. Prove '..Said' where nothing that the law and all that it calls make is longer than what came in: it says more and counts as full. Else prove '..UptoSaid'. A law counts once. -/
mutual
def uptoBulk {H : Type} : DataW H → Nat
  | .lit (.string bytes) => bytes.length + 1
  | .lit _ => 1
  | .nil => 1
  | .ptr d => uptoBulk d + 1
  | .slice elems spare => uptoBulkAll elems + uptoBulkAll spare + 1
  | .agg parts => uptoBulkAll parts + 1
  | .iface _ d => uptoBulk d + 1
  | .map entries => uptoBulkEntries entries + 1
  | .held _ => 1
def uptoBulkAll {H : Type} : List (DataW H) → Nat
  | [] => 0
  | d :: r => uptoBulk d + uptoBulkAll r
def uptoBulkEntries {H : Type} : List (Lit × DataW H) → Nat
  | [] => 0
  | x :: r => uptoBulkEntry x + uptoBulkEntries r
def uptoBulkEntry {H : Type} : Lit × DataW H → Nat
  | (.string bytes, d) => bytes.length + uptoBulk d + 1
  | (_, d) => uptoBulk d + 1
 end
def uptoSmall : (H : Type) → List (DataW H) → Bool := fun _ ds => decide (uptoBulkAll ds ≤ 1048576)
def OpenSpec.upto (s : _root_.Go.ChangeSpec) : _root_.Go.OpenSpec := { _root_.Go.OpenSpec.ofChange s with cond := some uptoSmall }

/-- 'laws.FnExactFDViolation', WHERE WHAT IT READS IS OF BULK AT MOST 1048576: true; the input reads as it did. -/
def fnExactFDViolationUptoRow : OpenClaim := { program := "ytkcfahfladikkaa", sum := "666de5a92b82db5190cf0f088d76518a81baf7018501418897fae1f2b0e5b1d2", func := "loop.example/g01917/laws.FnExactFDViolation", spec := "fnExactFDViolation", apart := false, narrowed := true }
def FnExactFDViolationUptoSaid : Prop := fnExactFDViolationUptoRow.holds Try.pinned (OpenSpec.upto fnExactFDViolationSpec)

/-- 'laws.FnExactSnapshotAt', WHERE WHAT IT READS IS OF BULK AT MOST 1048576: true; the input reads as it did. -/
def fnExactSnapshotAtUptoRow : OpenClaim := { program := "ytkcfahfladikkaa", sum := "666de5a92b82db5190cf0f088d76518a81baf7018501418897fae1f2b0e5b1d2", func := "loop.example/g01917/laws.FnExactSnapshotAt", spec := "fnExactSnapshotAt", apart := false, narrowed := true }
def FnExactSnapshotAtUptoSaid : Prop := fnExactSnapshotAtUptoRow.holds Try.pinned (OpenSpec.upto fnExactSnapshotAtSpec)

/-- 'laws.FnExactParseCertificate', WHERE WHAT IT READS IS OF BULK AT MOST 1048576: true; the input reads as it did. -/
def fnExactParseCertificateUptoRow : OpenClaim := { program := "ytkcfahfladikkaa", sum := "666de5a92b82db5190cf0f088d76518a81baf7018501418897fae1f2b0e5b1d2", func := "loop.example/g01917/laws.FnExactParseCertificate", spec := "fnExactParseCertificate", recurses := true, apart := false, narrowed := true }
def FnExactParseCertificateUptoSaid : Prop := fnExactParseCertificateUptoRow.holds Try.pinned (OpenSpec.upto fnExactParseCertificateSpec)

/-- 'laws.FnExactEqualNotifiers', WHERE WHAT IT READS IS OF BULK AT MOST 1048576: true; the input reads as it did. -/
def fnExactEqualNotifiersUptoRow : OpenClaim := { program := "ytkcfahfladikkaa", sum := "666de5a92b82db5190cf0f088d76518a81baf7018501418897fae1f2b0e5b1d2", func := "loop.example/g01917/laws.FnExactEqualNotifiers", spec := "fnExactEqualNotifiers", apart := false, narrowed := true }
def FnExactEqualNotifiersUptoSaid : Prop := fnExactEqualNotifiersUptoRow.holds Try.pinned (OpenSpec.upto fnExactEqualNotifiersSpec)

/-- 'laws.FnExactIsValidPlan', WHERE WHAT IT READS IS OF BULK AT MOST 1048576: true; the input reads as it did. -/
def fnExactIsValidPlanUptoRow : OpenClaim := { program := "ytkcfahfladikkaa", sum := "666de5a92b82db5190cf0f088d76518a81baf7018501418897fae1f2b0e5b1d2", func := "loop.example/g01917/laws.FnExactIsValidPlan", spec := "fnExactIsValidPlan", apart := false, narrowed := true }
def FnExactIsValidPlanUptoSaid : Prop := fnExactIsValidPlanUptoRow.holds Try.pinned (OpenSpec.upto fnExactIsValidPlanSpec)

/-- 'laws.FnExactNewNotifier', WHERE WHAT IT READS IS OF BULK AT MOST 1048576: true; the input reads as it did. -/
def fnExactNewNotifierUptoRow : OpenClaim := { program := "ytkcfahfladikkaa", sum := "666de5a92b82db5190cf0f088d76518a81baf7018501418897fae1f2b0e5b1d2", func := "loop.example/g01917/laws.FnExactNewNotifier", spec := "fnExactNewNotifier", apart := false, narrowed := true }
def FnExactNewNotifierUptoSaid : Prop := fnExactNewNotifierUptoRow.holds Try.pinned (OpenSpec.upto fnExactNewNotifierSpec)

/-- 'laws.FnExactExplainPlan', WHERE WHAT IT READS IS OF BULK AT MOST 1048576: true; the input reads as it did. -/
def fnExactExplainPlanUptoRow : OpenClaim := { program := "ytkcfahfladikkaa", sum := "666de5a92b82db5190cf0f088d76518a81baf7018501418897fae1f2b0e5b1d2", func := "loop.example/g01917/laws.FnExactExplainPlan", spec := "fnExactExplainPlan", recurses := true, apart := false, narrowed := true }
def FnExactExplainPlanUptoSaid : Prop := fnExactExplainPlanUptoRow.holds Try.pinned (OpenSpec.upto fnExactExplainPlanSpec)

/-- 'laws.FnExactOpenCursor', WHERE WHAT IT READS IS OF BULK AT MOST 1048576: true; the input reads as it did. -/
def fnExactOpenCursorUptoRow : OpenClaim := { program := "ytkcfahfladikkaa", sum := "666de5a92b82db5190cf0f088d76518a81baf7018501418897fae1f2b0e5b1d2", func := "loop.example/g01917/laws.FnExactOpenCursor", spec := "fnExactOpenCursor", apart := false, narrowed := true }
def FnExactOpenCursorUptoSaid : Prop := fnExactOpenCursorUptoRow.holds Try.pinned (OpenSpec.upto fnExactOpenCursorSpec)

/-- 'laws.FnExactDegreeBound', WHERE WHAT IT READS IS OF BULK AT MOST 1048576: true; the input reads as it did. -/
def fnExactDegreeBoundUptoRow : OpenClaim := { program := "ytkcfahfladikkaa", sum := "666de5a92b82db5190cf0f088d76518a81baf7018501418897fae1f2b0e5b1d2", func := "loop.example/g01917/laws.FnExactDegreeBound", spec := "fnExactDegreeBound", recurses := true, apart := false, narrowed := true }
def FnExactDegreeBoundUptoSaid : Prop := fnExactDegreeBoundUptoRow.holds Try.pinned (OpenSpec.upto fnExactDegreeBoundSpec)

/-- 'laws.FnExactFDBound', WHERE WHAT IT READS IS OF BULK AT MOST 1048576: true; the input reads as it did. -/
def fnExactFDBoundUptoRow : OpenClaim := { program := "ytkcfahfladikkaa", sum := "666de5a92b82db5190cf0f088d76518a81baf7018501418897fae1f2b0e5b1d2", func := "loop.example/g01917/laws.FnExactFDBound", spec := "fnExactFDBound", recurses := true, apart := false, narrowed := true }
def FnExactFDBoundUptoSaid : Prop := fnExactFDBoundUptoRow.holds Try.pinned (OpenSpec.upto fnExactFDBoundSpec)

end Rows
end Go.Proofs.Ytkcfahfladikkaa
