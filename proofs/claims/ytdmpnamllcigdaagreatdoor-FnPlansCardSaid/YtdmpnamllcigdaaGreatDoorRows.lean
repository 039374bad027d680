/-
  NARROWER THAN 'FOR EVERY INPUT', by the rows' own cells (each row's printed sentence says how): FnPlans: laid · FnExactPlanAndEvaluate: laid.
  DERIVED. THE GIVEN ROWS OF THIS SEAT. 2 by the template 'for every input the law returns true; each argument reads behind the call as it read before'; 0 by the template 'total and deterministic' (their statements: YtdmpnamllcigdaaGreatDoorTotals.lean).
  GIVEN WITH THE SEED: the statements are not yours to turn. If you find one false, say at which input.
  Laid BY PROGRAM, IN A SANDBOX (cutbox-rows.mjs): the forced cells as the released guide's own fill.sh prints them over the translation 8b80822e17e8417e… (all of the seat's roots in one cut). By AI agents, Wed Nov 11 2026. No macro, syntax, notation, axiom, sorry.
-/
import Derived.Test.YtdmpnamllcigdaaGreatDoorChecked
import GoSem.Claim
import GoSem.ClaimJoined
import GoSem.ClaimMapViews
import Derived.JoinedTies
import Derived.KernelRfl
namespace Go.Proofs.YtdmpnamllcigdaaGreatDoor
/- THE CELL 'sum', in the pinned program and in every row, IS THE sha256 OF THE DUMP (.gsa) THAT YtdmpnamllcigdaaGreatDoorProg.lean LOADS. Nothing in Lean hashes anything: it is a label: what it is worth is what the hold of that sum in a sandbox is worth. -/
noncomputable def Tryz.pinned : Pinned := { name := "ytdmpnamllcigdaagreatdoor", sum := "8b80822e17e8417e06fac91a110fc5ca712973df8176094767a0fba88ca2d124", checked := Tryz.checked }
namespace Rows
def none {H : Type} : Left H := { results := [], args := [] }

/- WHAT THE LISTED PACKAGE-LEVEL VARIABLES READ AS WHEN THE CALL BEGINS. Each datum BY PROGRAM (the guide's laid-datum.mjs) off the statement by which the dump's own 'gosem.cut.vars' lays the variable. In a bare row this is a premise. The card (YtdmpnamllcigdaaGreatDoorCards.lean) ties it to the program's text. -/
def laid_loop_example_g01917_impl_oneRational {H : Type} : DataW H := .agg [.lit (.int .i64 1), .lit (.int .i64 1)]

/-- 'laws.FnPlans': WHATEVER THE INPUT: true; the input reads as it did. -/
def fnPlansSpec : ChangeSpec := { name := "fnPlans", vars := ["loop.example/g01917/impl.oneRational"], fn := fun _ => fun
  | [d, g1] => { results := [.lit (.bool true)], args := [d], vars := [g1] }
  | _ => none }
def fnPlansRow : OpenClaim := { program := "ytdmpnamllcigdaagreatdoor", sum := "8b80822e17e8417e06fac91a110fc5ca712973df8176094767a0fba88ca2d124", func := "loop.example/g01917/laws.FnPlans", spec := "fnPlans", unfollowed := true, recurses := true, named := ["loop.example/g01917/impl.oneRational"], apart := false, laid := [("loop.example/g01917/impl.oneRational", laid_loop_example_g01917_impl_oneRational)] }
def FnPlansSaid : Prop := fnPlansRow.holds Tryz.pinned (OpenSpec.ofChange fnPlansSpec)

/-- ITS FALSE NEIGHBOUR: 'it returns false'. Refute it at one input. -/
def fnPlansWrong : ChangeSpec := { name := "fnPlans", vars := ["loop.example/g01917/impl.oneRational"], fn := fun _ => fun
  | [d, g1] => { results := [.lit (.bool false)], args := [d], vars := [g1] }
  | _ => none }
def FnPlansWrongFalsely : Prop := fnPlansRow.holds Tryz.pinned (OpenSpec.ofChange fnPlansWrong)

/-- 'laws.FnExactPlanAndEvaluate': WHATEVER THE INPUT: true; the input reads as it did. -/
def fnExactPlanAndEvaluateSpec : ChangeSpec := { name := "fnExactPlanAndEvaluate", vars := ["loop.example/g01917/impl.oneRational"], fn := fun _ => fun
  | [d1, d2, g1] => { results := [.lit (.bool true)], args := [d1, d2], vars := [g1] }
  | _ => none }
def fnExactPlanAndEvaluateRow : OpenClaim := { program := "ytdmpnamllcigdaagreatdoor", sum := "8b80822e17e8417e06fac91a110fc5ca712973df8176094767a0fba88ca2d124", func := "loop.example/g01917/laws.FnExactPlanAndEvaluate", spec := "fnExactPlanAndEvaluate", unfollowed := true, recurses := true, named := ["loop.example/g01917/impl.oneRational"], apart := false, laid := [("loop.example/g01917/impl.oneRational", laid_loop_example_g01917_impl_oneRational)] }
def FnExactPlanAndEvaluateSaid : Prop := fnExactPlanAndEvaluateRow.holds Tryz.pinned (OpenSpec.ofChange fnExactPlanAndEvaluateSpec)

/-- ITS FALSE NEIGHBOUR: 'it returns false'. Refute it at one input. -/
def fnExactPlanAndEvaluateWrong : ChangeSpec := { name := "fnExactPlanAndEvaluate", vars := ["loop.example/g01917/impl.oneRational"], fn := fun _ => fun
  | [d1, d2, g1] => { results := [.lit (.bool false)], args := [d1, d2], vars := [g1] }
  | _ => none }
def FnExactPlanAndEvaluateWrongFalsely : Prop := fnExactPlanAndEvaluateRow.holds Tryz.pinned (OpenSpec.ofChange fnExactPlanAndEvaluateWrong)

/- THE SECOND FORM. 'bulk': how many values and letters a reading holds, each counted each time it is reached (what is shared counts as often as it is met; a slice's spare places count too). A statement '..UptoSaid' is the law's where the arguments, and the package variables that the reading takes, are together of bulk at most 1048576: NARROWER than '..Said'. Prove '..Said' where nothing that the law and all that it calls make is longer than what came in: it says more and counts as full. Else prove '..UptoSaid'. A law counts once. -/
mutual
def uptoBulk {H : Type} : DataW H → Nat
  | .lit (.string bytes) => bytes.length + 1
  | .lit _ => 1
  | .nil => 1
  | .ptr d => uptoBulk d + 1
  | .slice elems spare => uptoBulkAll elems + uptoBulkAll spare + 1
  | .agg parts => uptoBulkAll parts + 1
  | .iface _ d => uptoBulk d + 1
  | .map entries => uptoBulkEntries entries + 1
  | .held _ => 1
def uptoBulkAll {H : Type} : List (DataW H) → Nat
  | [] => 0
  | d :: r => uptoBulk d + uptoBulkAll r
def uptoBulkEntries {H : Type} : List (Lit × DataW H) → Nat
  | [] => 0
  | x :: r => uptoBulkEntry x + uptoBulkEntries r
def uptoBulkEntry {H : Type} : Lit × DataW H → Nat
  | (.string bytes, d) => bytes.length + uptoBulk d + 1
  | (_, d) => uptoBulk d + 1
 end
def uptoSmall : (H : Type) → List (DataW H) → Bool := fun _ ds => decide (uptoBulkAll ds ≤ 1048576)
def OpenSpec.upto (s : _root_.Go.ChangeSpec) : _root_.Go.OpenSpec := { _root_.Go.OpenSpec.ofChange s with cond := some uptoSmall }

/-- 'laws.FnPlans', WHERE WHAT IT READS IS OF BULK AT MOST 1048576: true; the input reads as it did. -/
def fnPlansUptoRow : OpenClaim := { program := "ytdmpnamllcigdaagreatdoor", sum := "8b80822e17e8417e06fac91a110fc5ca712973df8176094767a0fba88ca2d124", func := "loop.example/g01917/laws.FnPlans", spec := "fnPlans", unfollowed := true, recurses := true, named := ["loop.example/g01917/impl.oneRational"], apart := false, laid := [("loop.example/g01917/impl.oneRational", laid_loop_example_g01917_impl_oneRational)], narrowed := true }
def FnPlansUptoSaid : Prop := fnPlansUptoRow.holds Tryz.pinned (OpenSpec.upto fnPlansSpec)

/-- 'laws.FnExactPlanAndEvaluate', WHERE WHAT IT READS IS OF BULK AT MOST 1048576: true; the input reads as it did. -/
def fnExactPlanAndEvaluateUptoRow : OpenClaim := { program := "ytdmpnamllcigdaagreatdoor", sum := "8b80822e17e8417e06fac91a110fc5ca712973df8176094767a0fba88ca2d124", func := "loop.example/g01917/laws.FnExactPlanAndEvaluate", spec := "fnExactPlanAndEvaluate", unfollowed := true, recurses := true, named := ["loop.example/g01917/impl.oneRational"], apart := false, laid := [("loop.example/g01917/impl.oneRational", laid_loop_example_g01917_impl_oneRational)], narrowed := true }
def FnExactPlanAndEvaluateUptoSaid : Prop := fnExactPlanAndEvaluateUptoRow.holds Tryz.pinned (OpenSpec.upto fnExactPlanAndEvaluateSpec)

end Rows
end Go.Proofs.YtdmpnamllcigdaaGreatDoor
