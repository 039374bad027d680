/-
  NARROWER THAN 'FOR EVERY INPUT', by the rows' own cells (each row's printed sentence says how): FnExactChoosePlan: laid · FnExactMakeCertificate: laid.
  DERIVED. THE GIVEN ROWS OF THIS SEAT. 2 by the template 'for every input the law returns true; each argument reads behind the call as it read before'; 0 by the template 'total and deterministic' (their statements: YtckmdkajoiegmaaGreatDoorTotals.lean).
  GIVEN WITH THE SEED: the statements are not yours to turn. If you find one false, say at which input.
  Laid BY PROGRAM, IN A SANDBOX (cutbox-rows.mjs): the forced cells as the released guide's own fill.sh prints them over the translation 33256666e001fe73… (all of the seat's roots in one cut). By AI agents, Wed Nov 11 2026. No macro, syntax, notation, axiom, sorry.
-/
import Derived.Test.YtckmdkajoiegmaaGreatDoorChecked
import GoSem.Claim
import GoSem.ClaimJoined
import GoSem.ClaimMapViews
import Derived.JoinedTies
import Derived.KernelRfl
namespace Go.Proofs.YtckmdkajoiegmaaGreatDoor
/- THE CELL 'sum', in the pinned program and in every row, IS THE sha256 OF THE DUMP (.gsa) THAT YtckmdkajoiegmaaGreatDoorProg.lean LOADS. Nothing in Lean hashes anything: it is a label: what it is worth is what the hold of that sum in a sandbox is worth. -/
noncomputable def Tryz.pinned : Pinned := { name := "ytckmdkajoiegmaagreatdoor", sum := "33256666e001fe73d7d131782c7862a50c97c2cd1071f1b86b4bcad5a0c55f2c", checked := Tryz.checked }
namespace Rows
def none {H : Type} : Left H := { results := [], args := [] }

/- WHAT THE LISTED PACKAGE-LEVEL VARIABLES READ AS WHEN THE CALL BEGINS. Each datum BY PROGRAM (the guide's laid-datum.mjs) off the statement by which the dump's own 'gosem.cut.vars' lays the variable. In a bare row this is a premise. The card (YtckmdkajoiegmaaGreatDoorCards.lean) ties it to the program's text. -/
def laid_loop_example_g01917_impl_oneRational {H : Type} : DataW H := .agg [.lit (.int .i64 1), .lit (.int .i64 1)]

/-- 'laws.FnExactChoosePlan': WHATEVER THE INPUT: true; the input reads as it did. -/
def fnExactChoosePlanSpec : ChangeSpec := { name := "fnExactChoosePlan", vars := ["loop.example/g01917/impl.oneRational"], fn := fun _ => fun
  | [d1, d2, g1] => { results := [.lit (.bool true)], args := [d1, d2], vars := [g1] }
  | _ => none }
def fnExactChoosePlanRow : OpenClaim := { program := "ytckmdkajoiegmaagreatdoor", sum := "33256666e001fe73d7d131782c7862a50c97c2cd1071f1b86b4bcad5a0c55f2c", func := "loop.example/g01917/laws.FnExactChoosePlan", spec := "fnExactChoosePlan", unfollowed := true, recurses := true, named := ["loop.example/g01917/impl.oneRational"], apart := false, laid := [("loop.example/g01917/impl.oneRational", laid_loop_example_g01917_impl_oneRational)] }
def FnExactChoosePlanSaid : Prop := fnExactChoosePlanRow.holds Tryz.pinned (OpenSpec.ofChange fnExactChoosePlanSpec)

/-- ITS FALSE NEIGHBOUR: 'it returns false'. Refute it at one input. -/
def fnExactChoosePlanWrong : ChangeSpec := { name := "fnExactChoosePlan", vars := ["loop.example/g01917/impl.oneRational"], fn := fun _ => fun
  | [d1, d2, g1] => { results := [.lit (.bool false)], args := [d1, d2], vars := [g1] }
  | _ => none }
def FnExactChoosePlanWrongFalsely : Prop := fnExactChoosePlanRow.holds Tryz.pinned (OpenSpec.ofChange fnExactChoosePlanWrong)

/-- 'laws.FnExactMakeCertificate': WHATEVER THE INPUT: true; the input reads as it did. -/
def fnExactMakeCertificateSpec : ChangeSpec := { name := "fnExactMakeCertificate", vars := ["loop.example/g01917/impl.oneRational"], fn := fun _ => fun
  | [d1, d2, d3, g1] => { results := [.lit (.bool true)], args := [d1, d2, d3], vars := [g1] }
  | _ => none }
def fnExactMakeCertificateRow : OpenClaim := { program := "ytckmdkajoiegmaagreatdoor", sum := "33256666e001fe73d7d131782c7862a50c97c2cd1071f1b86b4bcad5a0c55f2c", func := "loop.example/g01917/laws.FnExactMakeCertificate", spec := "fnExactMakeCertificate", unfollowed := true, recurses := true, named := ["loop.example/g01917/impl.oneRational"], apart := false, laid := [("loop.example/g01917/impl.oneRational", laid_loop_example_g01917_impl_oneRational)] }
def FnExactMakeCertificateSaid : Prop := fnExactMakeCertificateRow.holds Tryz.pinned (OpenSpec.ofChange fnExactMakeCertificateSpec)

/-- ITS FALSE NEIGHBOUR: 'it returns false'. Refute it at one input. -/
def fnExactMakeCertificateWrong : ChangeSpec := { name := "fnExactMakeCertificate", vars := ["loop.example/g01917/impl.oneRational"], fn := fun _ => fun
  | [d1, d2, d3, g1] => { results := [.lit (.bool false)], args := [d1, d2, d3], vars := [g1] }
  | _ => none }
def FnExactMakeCertificateWrongFalsely : Prop := fnExactMakeCertificateRow.holds Tryz.pinned (OpenSpec.ofChange fnExactMakeCertificateWrong)

/- THE SECOND FORM. 'bulk': how many values and letters a reading holds, each counted each time it is reached (what is shared counts as often as it is met; a slice's spare places count too). A statement '..UptoSaid' is the law's where the arguments, and the package variables that the reading takes, are together of bulk at most 1048576: NARROWER than '..Said'. Prove '..Said' where nothing that the law and all that it calls make is longer than what came in: it says more and counts as full. Else prove '..UptoSaid'. A law counts once. -/
mutual
def uptoBulk {H : Type} : DataW H → Nat
  | .lit (.string bytes) => bytes.length + 1
  | .lit _ => 1
  | .nil => 1
  | .ptr d => uptoBulk d + 1
  | .slice elems spare => uptoBulkAll elems + uptoBulkAll spare + 1
  | .agg parts => uptoBulkAll parts + 1
  | .iface _ d => uptoBulk d + 1
  | .map entries => uptoBulkEntries entries + 1
  | .held _ => 1
def uptoBulkAll {H : Type} : List (DataW H) → Nat
  | [] => 0
  | d :: r => uptoBulk d + uptoBulkAll r
def uptoBulkEntries {H : Type} : List (Lit × DataW H) → Nat
  | [] => 0
  | x :: r => uptoBulkEntry x + uptoBulkEntries r
def uptoBulkEntry {H : Type} : Lit × DataW H → Nat
  | (.string bytes, d) => bytes.length + uptoBulk d + 1
  | (_, d) => uptoBulk d + 1
 end
def uptoSmall : (H : Type) → List (DataW H) → Bool := fun _ ds => decide (uptoBulkAll ds ≤ 1048576)
def OpenSpec.upto (s : _root_.Go.ChangeSpec) : _root_.Go.OpenSpec := { _root_.Go.OpenSpec.ofChange s with cond := some uptoSmall }

/-- 'laws.FnExactChoosePlan', WHERE WHAT IT READS IS OF BULK AT MOST 1048576: true; the input reads as it did. -/
def fnExactChoosePlanUptoRow : OpenClaim := { program := "ytckmdkajoiegmaagreatdoor", sum := "33256666e001fe73d7d131782c7862a50c97c2cd1071f1b86b4bcad5a0c55f2c", func := "loop.example/g01917/laws.FnExactChoosePlan", spec := "fnExactChoosePlan", unfollowed := true, recurses := true, named := ["loop.example/g01917/impl.oneRational"], apart := false, laid := [("loop.example/g01917/impl.oneRational", laid_loop_example_g01917_impl_oneRational)], narrowed := true }
def FnExactChoosePlanUptoSaid : Prop := fnExactChoosePlanUptoRow.holds Tryz.pinned (OpenSpec.upto fnExactChoosePlanSpec)

/-- 'laws.FnExactMakeCertificate', WHERE WHAT IT READS IS OF BULK AT MOST 1048576: true; the input reads as it did. -/
def fnExactMakeCertificateUptoRow : OpenClaim := { program := "ytckmdkajoiegmaagreatdoor", sum := "33256666e001fe73d7d131782c7862a50c97c2cd1071f1b86b4bcad5a0c55f2c", func := "loop.example/g01917/laws.FnExactMakeCertificate", spec := "fnExactMakeCertificate", unfollowed := true, recurses := true, named := ["loop.example/g01917/impl.oneRational"], apart := false, laid := [("loop.example/g01917/impl.oneRational", laid_loop_example_g01917_impl_oneRational)], narrowed := true }
def FnExactMakeCertificateUptoSaid : Prop := fnExactMakeCertificateUptoRow.holds Tryz.pinned (OpenSpec.upto fnExactMakeCertificateSpec)

end Rows
end Go.Proofs.YtckmdkajoiegmaaGreatDoor
