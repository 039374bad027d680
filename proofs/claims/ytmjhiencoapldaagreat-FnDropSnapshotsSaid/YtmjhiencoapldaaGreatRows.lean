/-
  No cell of these rows narrows 'for every input' (looked for: loops, veiled, ifaces, maps, wideKeys, modest, calm, conditions, laid).
  DERIVED. THE GIVEN ROWS OF THIS SEAT. 5 by the template 'for every input the law returns true; each argument reads behind the call as it read before'; 0 by the template 'total and deterministic' (their statements: YtmjhiencoapldaaGreatTotals.lean).
  GIVEN WITH THE SEED: the statements are not yours to turn. If you find one false, say at which input.
  Laid BY PROGRAM, IN A SANDBOX (cutbox-rows.mjs): the forced cells as the released guide's own fill.sh prints them over the translation 9cb286341bd681a2… (all of the seat's roots in one cut). By AI agents, Wed Nov 11 2026. No macro, syntax, notation, axiom, sorry.
-/
import Derived.Test.YtmjhiencoapldaaGreatChecked
import GoSem.Claim
import GoSem.ClaimJoined
import GoSem.ClaimMapViews
import Derived.JoinedTies
import Derived.KernelRfl
namespace Go.Proofs.YtmjhiencoapldaaGreat
/- THE CELL 'sum', in the pinned program and in every row, IS THE sha256 OF THE DUMP (.gsa) THAT YtmjhiencoapldaaGreatProg.lean LOADS. Nothing in Lean hashes anything: it is a label: what it is worth is what the hold of that sum in a sandbox is worth. -/
noncomputable def Tryz.pinned : Pinned := { name := "ytmjhiencoapldaagreat", sum := "9cb286341bd681a231eed65dfefba4ddd3f71156f3b6b2221598a839f6cad927", checked := Tryz.checked }
namespace Rows
def none {H : Type} : Left H := { results := [], args := [] }

/-- 'laws.FnDegreeBound': WHATEVER THE INPUT: true; the input reads as it did. -/
def fnDegreeBoundSpec : ChangeSpec := { name := "fnDegreeBound", fn := fun _ => fun
  | [d] => { results := [.lit (.bool true)], args := [d] }
  | _ => none }
def fnDegreeBoundRow : OpenClaim := { program := "ytmjhiencoapldaagreat", sum := "9cb286341bd681a231eed65dfefba4ddd3f71156f3b6b2221598a839f6cad927", func := "loop.example/g01917/laws.FnDegreeBound", spec := "fnDegreeBound", recurses := true, apart := false }
def FnDegreeBoundSaid : Prop := fnDegreeBoundRow.holds Tryz.pinned (OpenSpec.ofChange fnDegreeBoundSpec)

/-- ITS FALSE NEIGHBOUR: 'it returns false'. Refute it at one input. -/
def fnDegreeBoundWrong : ChangeSpec := { name := "fnDegreeBound", fn := fun _ => fun
  | [d] => { results := [.lit (.bool false)], args := [d] }
  | _ => none }
def FnDegreeBoundWrongFalsely : Prop := fnDegreeBoundRow.holds Tryz.pinned (OpenSpec.ofChange fnDegreeBoundWrong)

/-- 'laws.FnExactIsValidNotifier': WHATEVER THE INPUT: true; the input reads as it did. -/
def fnExactIsValidNotifierSpec : ChangeSpec := { name := "fnExactIsValidNotifier", fn := fun _ => fun
  | [d] => { results := [.lit (.bool true)], args := [d] }
  | _ => none }
def fnExactIsValidNotifierRow : OpenClaim := { program := "ytmjhiencoapldaagreat", sum := "9cb286341bd681a231eed65dfefba4ddd3f71156f3b6b2221598a839f6cad927", func := "loop.example/g01917/laws.FnExactIsValidNotifier", spec := "fnExactIsValidNotifier", recurses := true, apart := false }
def FnExactIsValidNotifierSaid : Prop := fnExactIsValidNotifierRow.holds Tryz.pinned (OpenSpec.ofChange fnExactIsValidNotifierSpec)

/-- ITS FALSE NEIGHBOUR: 'it returns false'. Refute it at one input. -/
def fnExactIsValidNotifierWrong : ChangeSpec := { name := "fnExactIsValidNotifier", fn := fun _ => fun
  | [d] => { results := [.lit (.bool false)], args := [d] }
  | _ => none }
def FnExactIsValidNotifierWrongFalsely : Prop := fnExactIsValidNotifierRow.holds Tryz.pinned (OpenSpec.ofChange fnExactIsValidNotifierWrong)

/-- 'laws.FnDropSnapshots': WHATEVER THE INPUT: true; the input reads as it did. -/
def fnDropSnapshotsSpec : ChangeSpec := { name := "fnDropSnapshots", fn := fun _ => fun
  | [d] => { results := [.lit (.bool true)], args := [d] }
  | _ => none }
def fnDropSnapshotsRow : OpenClaim := { program := "ytmjhiencoapldaagreat", sum := "9cb286341bd681a231eed65dfefba4ddd3f71156f3b6b2221598a839f6cad927", func := "loop.example/g01917/laws.FnDropSnapshots", spec := "fnDropSnapshots", recurses := true, apart := false }
def FnDropSnapshotsSaid : Prop := fnDropSnapshotsRow.holds Tryz.pinned (OpenSpec.ofChange fnDropSnapshotsSpec)

/-- ITS FALSE NEIGHBOUR: 'it returns false'. Refute it at one input. -/
def fnDropSnapshotsWrong : ChangeSpec := { name := "fnDropSnapshots", fn := fun _ => fun
  | [d] => { results := [.lit (.bool false)], args := [d] }
  | _ => none }
def FnDropSnapshotsWrongFalsely : Prop := fnDropSnapshotsRow.holds Tryz.pinned (OpenSpec.ofChange fnDropSnapshotsWrong)

/-- 'laws.FnExactWatcherRows': WHATEVER THE INPUT: true; the input reads as it did. -/
def fnExactWatcherRowsSpec : ChangeSpec := { name := "fnExactWatcherRows", fn := fun _ => fun
  | [d1, d2] => { results := [.lit (.bool true)], args := [d1, d2] }
  | _ => none }
def fnExactWatcherRowsRow : OpenClaim := { program := "ytmjhiencoapldaagreat", sum := "9cb286341bd681a231eed65dfefba4ddd3f71156f3b6b2221598a839f6cad927", func := "loop.example/g01917/laws.FnExactWatcherRows", spec := "fnExactWatcherRows", recurses := true, apart := false }
def FnExactWatcherRowsSaid : Prop := fnExactWatcherRowsRow.holds Tryz.pinned (OpenSpec.ofChange fnExactWatcherRowsSpec)

/-- ITS FALSE NEIGHBOUR: 'it returns false'. Refute it at one input. -/
def fnExactWatcherRowsWrong : ChangeSpec := { name := "fnExactWatcherRows", fn := fun _ => fun
  | [d1, d2] => { results := [.lit (.bool false)], args := [d1, d2] }
  | _ => none }
def FnExactWatcherRowsWrongFalsely : Prop := fnExactWatcherRowsRow.holds Tryz.pinned (OpenSpec.ofChange fnExactWatcherRowsWrong)

/-- 'laws.FnAddWatcher': WHATEVER THE INPUT: true; the input reads as it did. -/
def fnAddWatcherSpec : ChangeSpec := { name := "fnAddWatcher", fn := fun _ => fun
  | [d] => { results := [.lit (.bool true)], args := [d] }
  | _ => none }
def fnAddWatcherRow : OpenClaim := { program := "ytmjhiencoapldaagreat", sum := "9cb286341bd681a231eed65dfefba4ddd3f71156f3b6b2221598a839f6cad927", func := "loop.example/g01917/laws.FnAddWatcher", spec := "fnAddWatcher", recurses := true, apart := false }
def FnAddWatcherSaid : Prop := fnAddWatcherRow.holds Tryz.pinned (OpenSpec.ofChange fnAddWatcherSpec)

/-- ITS FALSE NEIGHBOUR: 'it returns false'. Refute it at one input. -/
def fnAddWatcherWrong : ChangeSpec := { name := "fnAddWatcher", fn := fun _ => fun
  | [d] => { results := [.lit (.bool false)], args := [d] }
  | _ => none }
def FnAddWatcherWrongFalsely : Prop := fnAddWatcherRow.holds Tryz.pinned (OpenSpec.ofChange fnAddWatcherWrong)

/- THE SECOND FORM. 'bulk': how many values and letters a reading holds, each counted each time it is reached (what is shared counts as often as it is met; a slice's spare places count too). A statement '..UptoSaid' is the law's where the arguments, and the package variables that the reading takes, are together of bulk at most 1048576: NARROWER than '..Said'. Prove '..Said' where nothing that the law and all that it calls make is longer than what came in: it says more and counts as full. Else prove '..UptoSaid'. A law counts once. -/
mutual
def uptoBulk {H : Type} : DataW H → Nat
  | .lit (.string bytes) => bytes.length + 1
  | .lit _ => 1
  | .nil => 1
  | .ptr d => uptoBulk d + 1
  | .slice elems spare => uptoBulkAll elems + uptoBulkAll spare + 1
  | .agg parts => uptoBulkAll parts + 1
  | .iface _ d => uptoBulk d + 1
  | .map entries => uptoBulkEntries entries + 1
  | .held _ => 1
def uptoBulkAll {H : Type} : List (DataW H) → Nat
  | [] => 0
  | d :: r => uptoBulk d + uptoBulkAll r
def uptoBulkEntries {H : Type} : List (Lit × DataW H) → Nat
  | [] => 0
  | x :: r => uptoBulkEntry x + uptoBulkEntries r
def uptoBulkEntry {H : Type} : Lit × DataW H → Nat
  | (.string bytes, d) => bytes.length + uptoBulk d + 1
  | (_, d) => uptoBulk d + 1
 end
def uptoSmall : (H : Type) → List (DataW H) → Bool := fun _ ds => decide (uptoBulkAll ds ≤ 1048576)
def OpenSpec.upto (s : _root_.Go.ChangeSpec) : _root_.Go.OpenSpec := { _root_.Go.OpenSpec.ofChange s with cond := some uptoSmall }

/-- 'laws.FnDegreeBound', WHERE WHAT IT READS IS OF BULK AT MOST 1048576: true; the input reads as it did. -/
def fnDegreeBoundUptoRow : OpenClaim := { program := "ytmjhiencoapldaagreat", sum := "9cb286341bd681a231eed65dfefba4ddd3f71156f3b6b2221598a839f6cad927", func := "loop.example/g01917/laws.FnDegreeBound", spec := "fnDegreeBound", recurses := true, apart := false, narrowed := true }
def FnDegreeBoundUptoSaid : Prop := fnDegreeBoundUptoRow.holds Tryz.pinned (OpenSpec.upto fnDegreeBoundSpec)

/-- 'laws.FnExactIsValidNotifier', WHERE WHAT IT READS IS OF BULK AT MOST 1048576: true; the input reads as it did. -/
def fnExactIsValidNotifierUptoRow : OpenClaim := { program := "ytmjhiencoapldaagreat", sum := "9cb286341bd681a231eed65dfefba4ddd3f71156f3b6b2221598a839f6cad927", func := "loop.example/g01917/laws.FnExactIsValidNotifier", spec := "fnExactIsValidNotifier", recurses := true, apart := false, narrowed := true }
def FnExactIsValidNotifierUptoSaid : Prop := fnExactIsValidNotifierUptoRow.holds Tryz.pinned (OpenSpec.upto fnExactIsValidNotifierSpec)

/-- 'laws.FnDropSnapshots', WHERE WHAT IT READS IS OF BULK AT MOST 1048576: true; the input reads as it did. -/
def fnDropSnapshotsUptoRow : OpenClaim := { program := "ytmjhiencoapldaagreat", sum := "9cb286341bd681a231eed65dfefba4ddd3f71156f3b6b2221598a839f6cad927", func := "loop.example/g01917/laws.FnDropSnapshots", spec := "fnDropSnapshots", recurses := true, apart := false, narrowed := true }
def FnDropSnapshotsUptoSaid : Prop := fnDropSnapshotsUptoRow.holds Tryz.pinned (OpenSpec.upto fnDropSnapshotsSpec)

/-- 'laws.FnExactWatcherRows', WHERE WHAT IT READS IS OF BULK AT MOST 1048576: true; the input reads as it did. -/
def fnExactWatcherRowsUptoRow : OpenClaim := { program := "ytmjhiencoapldaagreat", sum := "9cb286341bd681a231eed65dfefba4ddd3f71156f3b6b2221598a839f6cad927", func := "loop.example/g01917/laws.FnExactWatcherRows", spec := "fnExactWatcherRows", recurses := true, apart := false, narrowed := true }
def FnExactWatcherRowsUptoSaid : Prop := fnExactWatcherRowsUptoRow.holds Tryz.pinned (OpenSpec.upto fnExactWatcherRowsSpec)

/-- 'laws.FnAddWatcher', WHERE WHAT IT READS IS OF BULK AT MOST 1048576: true; the input reads as it did. -/
def fnAddWatcherUptoRow : OpenClaim := { program := "ytmjhiencoapldaagreat", sum := "9cb286341bd681a231eed65dfefba4ddd3f71156f3b6b2221598a839f6cad927", func := "loop.example/g01917/laws.FnAddWatcher", spec := "fnAddWatcher", recurses := true, apart := false, narrowed := true }
def FnAddWatcherUptoSaid : Prop := fnAddWatcherUptoRow.holds Tryz.pinned (OpenSpec.upto fnAddWatcherSpec)

end Rows
end Go.Proofs.YtmjhiencoapldaaGreat
