/-
  No cell of these rows narrows 'for every input' (looked for: loops, veiled, ifaces, maps, wideKeys, modest, calm, conditions, laid).
  DERIVED. THE GIVEN ROWS OF THIS SEAT. 4 by the template 'for every input the law returns true; each argument reads behind the call as it read before'; 0 by the template 'total and deterministic' (their statements: YtceghmdneadhbaaGreatTotals.lean).
  GIVEN WITH THE SEED: the statements are not yours to turn. If you find one false, say at which input.
  Laid BY PROGRAM, IN A SANDBOX (cutbox-rows.mjs): the forced cells as the released guide's own fill.sh prints them over the translation fa9d21dcf61d79c3… (all of the seat's roots in one cut). By AI agents, Wed Nov 11 2026. No macro, syntax, notation, axiom, sorry.
-/
import Derived.Test.YtceghmdneadhbaaGreatChecked
import GoSem.Claim
import GoSem.ClaimJoined
import GoSem.ClaimMapViews
import Derived.JoinedTies
import Derived.KernelRfl
namespace Go.Proofs.YtceghmdneadhbaaGreat
/- THE CELL 'sum', in the pinned program and in every row, IS THE sha256 OF THE DUMP (.gsa) THAT YtceghmdneadhbaaGreatProg.lean LOADS. Nothing in Lean hashes anything: it is a label: what it is worth is what the hold of that sum in a sandbox is worth. -/
noncomputable def Tryz.pinned : Pinned := { name := "ytceghmdneadhbaagreat", sum := "fa9d21dcf61d79c391648634cee9601e72763f79028c57c44a0b68457ae2ec0b", checked := Tryz.checked }
namespace Rows
def none {H : Type} : Left H := { results := [], args := [] }

/-- 'laws.FnExactIsValidNotifier': WHATEVER THE INPUT: true; the input reads as it did. -/
def fnExactIsValidNotifierSpec : ChangeSpec := { name := "fnExactIsValidNotifier", fn := fun _ => fun
  | [d] => { results := [.lit (.bool true)], args := [d] }
  | _ => none }
def fnExactIsValidNotifierRow : OpenClaim := { program := "ytceghmdneadhbaagreat", sum := "fa9d21dcf61d79c391648634cee9601e72763f79028c57c44a0b68457ae2ec0b", func := "loop.example/g01917/laws.FnExactIsValidNotifier", spec := "fnExactIsValidNotifier", recurses := true, apart := false }
def FnExactIsValidNotifierSaid : Prop := fnExactIsValidNotifierRow.holds Tryz.pinned (OpenSpec.ofChange fnExactIsValidNotifierSpec)

/-- ITS FALSE NEIGHBOUR: 'it returns false'. Refute it at one input. -/
def fnExactIsValidNotifierWrong : ChangeSpec := { name := "fnExactIsValidNotifier", fn := fun _ => fun
  | [d] => { results := [.lit (.bool false)], args := [d] }
  | _ => none }
def FnExactIsValidNotifierWrongFalsely : Prop := fnExactIsValidNotifierRow.holds Tryz.pinned (OpenSpec.ofChange fnExactIsValidNotifierWrong)

/-- 'laws.FnExactWatcherRows': WHATEVER THE INPUT: true; the input reads as it did. -/
def fnExactWatcherRowsSpec : ChangeSpec := { name := "fnExactWatcherRows", fn := fun _ => fun
  | [d1, d2] => { results := [.lit (.bool true)], args := [d1, d2] }
  | _ => none }
def fnExactWatcherRowsRow : OpenClaim := { program := "ytceghmdneadhbaagreat", sum := "fa9d21dcf61d79c391648634cee9601e72763f79028c57c44a0b68457ae2ec0b", func := "loop.example/g01917/laws.FnExactWatcherRows", spec := "fnExactWatcherRows", recurses := true, apart := false }
def FnExactWatcherRowsSaid : Prop := fnExactWatcherRowsRow.holds Tryz.pinned (OpenSpec.ofChange fnExactWatcherRowsSpec)

/-- ITS FALSE NEIGHBOUR: 'it returns false'. Refute it at one input. -/
def fnExactWatcherRowsWrong : ChangeSpec := { name := "fnExactWatcherRows", fn := fun _ => fun
  | [d1, d2] => { results := [.lit (.bool false)], args := [d1, d2] }
  | _ => none }
def FnExactWatcherRowsWrongFalsely : Prop := fnExactWatcherRowsRow.holds Tryz.pinned (OpenSpec.ofChange fnExactWatcherRowsWrong)

/-- 'laws.FnAddWatcher': WHATEVER THE INPUT: true; the input reads as it did. -/
def fnAddWatcherSpec : ChangeSpec := { name := "fnAddWatcher", fn := fun _ => fun
  | [d] => { results := [.lit (.bool true)], args := [d] }
  | _ => none }
def fnAddWatcherRow : OpenClaim := { program := "ytceghmdneadhbaagreat", sum := "fa9d21dcf61d79c391648634cee9601e72763f79028c57c44a0b68457ae2ec0b", func := "loop.example/g01917/laws.FnAddWatcher", spec := "fnAddWatcher", recurses := true, apart := false }
def FnAddWatcherSaid : Prop := fnAddWatcherRow.holds Tryz.pinned (OpenSpec.ofChange fnAddWatcherSpec)

/-- ITS FALSE NEIGHBOUR: 'it returns false'. Refute it at one input. -/
def fnAddWatcherWrong : ChangeSpec := { name := "fnAddWatcher", fn := fun _ => fun
  | [d] => { results := [.lit (.bool false)], args := [d] }
  | _ => none }
def FnAddWatcherWrongFalsely : Prop := fnAddWatcherRow.holds Tryz.pinned (OpenSpec.ofChange fnAddWatcherWrong)

/-- 'laws.FnExactAddWatcher': WHATEVER THE INPUT: true; the input reads as it did. -/
def fnExactAddWatcherSpec : ChangeSpec := { name := "fnExactAddWatcher", fn := fun _ => fun
  | [d1, d2] => { results := [.lit (.bool true)], args := [d1, d2] }
  | _ => none }
def fnExactAddWatcherRow : OpenClaim := { program := "ytceghmdneadhbaagreat", sum := "fa9d21dcf61d79c391648634cee9601e72763f79028c57c44a0b68457ae2ec0b", func := "loop.example/g01917/laws.FnExactAddWatcher", spec := "fnExactAddWatcher", recurses := true, apart := false }
def FnExactAddWatcherSaid : Prop := fnExactAddWatcherRow.holds Tryz.pinned (OpenSpec.ofChange fnExactAddWatcherSpec)

/-- ITS FALSE NEIGHBOUR: 'it returns false'. Refute it at one input. -/
def fnExactAddWatcherWrong : ChangeSpec := { name := "fnExactAddWatcher", fn := fun _ => fun
  | [d1, d2] => { results := [.lit (.bool false)], args := [d1, d2] }
  | _ => none }
def FnExactAddWatcherWrongFalsely : Prop := fnExactAddWatcherRow.holds Tryz.pinned (OpenSpec.ofChange fnExactAddWatcherWrong)

/- THE SECOND FORM. 'bulk': how many values and letters a reading holds, each counted each time it is reached (what is shared counts as often as it is met; a slice's spare places count too). A statement '..UptoSaid' is the law's where the arguments, and the package variables that the reading takes, are together of bulk at most 1048576: NARROWER than '..Said'. Prove '..Said' where nothing that the law and all that it calls make is longer than what came in: it says more and counts as full. Else prove '..UptoSaid'. A law counts once. -/
mutual
def uptoBulk {H : Type} : DataW H → Nat
  | .lit (.string bytes) => bytes.length + 1
  | .lit _ => 1
  | .nil => 1
  | .ptr d => uptoBulk d + 1
  | .slice elems spare => uptoBulkAll elems + uptoBulkAll spare + 1
  | .agg parts => uptoBulkAll parts + 1
  | .iface _ d => uptoBulk d + 1
  | .map entries => uptoBulkEntries entries + 1
  | .held _ => 1
def uptoBulkAll {H : Type} : List (DataW H) → Nat
  | [] => 0
  | d :: r => uptoBulk d + uptoBulkAll r
def uptoBulkEntries {H : Type} : List (Lit × DataW H) → Nat
  | [] => 0
  | x :: r => uptoBulkEntry x + uptoBulkEntries r
def uptoBulkEntry {H : Type} : Lit × DataW H → Nat
  | (.string bytes, d) => bytes.length + uptoBulk d + 1
  | (_, d) => uptoBulk d + 1
 end
def uptoSmall : (H : Type) → List (DataW H) → Bool := fun _ ds => decide (uptoBulkAll ds ≤ 1048576)
def OpenSpec.upto (s : _root_.Go.ChangeSpec) : _root_.Go.OpenSpec := { _root_.Go.OpenSpec.ofChange s with cond := some uptoSmall }

/-- 'laws.FnExactIsValidNotifier', WHERE WHAT IT READS IS OF BULK AT MOST 1048576: true; the input reads as it did. -/
def fnExactIsValidNotifierUptoRow : OpenClaim := { program := "ytceghmdneadhbaagreat", sum := "fa9d21dcf61d79c391648634cee9601e72763f79028c57c44a0b68457ae2ec0b", func := "loop.example/g01917/laws.FnExactIsValidNotifier", spec := "fnExactIsValidNotifier", recurses := true, apart := false, narrowed := true }
def FnExactIsValidNotifierUptoSaid : Prop := fnExactIsValidNotifierUptoRow.holds Tryz.pinned (OpenSpec.upto fnExactIsValidNotifierSpec)

/-- 'laws.FnExactWatcherRows', WHERE WHAT IT READS IS OF BULK AT MOST 1048576: true; the input reads as it did. -/
def fnExactWatcherRowsUptoRow : OpenClaim := { program := "ytceghmdneadhbaagreat", sum := "fa9d21dcf61d79c391648634cee9601e72763f79028c57c44a0b68457ae2ec0b", func := "loop.example/g01917/laws.FnExactWatcherRows", spec := "fnExactWatcherRows", recurses := true, apart := false, narrowed := true }
def FnExactWatcherRowsUptoSaid : Prop := fnExactWatcherRowsUptoRow.holds Tryz.pinned (OpenSpec.upto fnExactWatcherRowsSpec)

/-- 'laws.FnAddWatcher', WHERE WHAT IT READS IS OF BULK AT MOST 1048576: true; the input reads as it did. -/
def fnAddWatcherUptoRow : OpenClaim := { program := "ytceghmdneadhbaagreat", sum := "fa9d21dcf61d79c391648634cee9601e72763f79028c57c44a0b68457ae2ec0b", func := "loop.example/g01917/laws.FnAddWatcher", spec := "fnAddWatcher", recurses := true, apart := false, narrowed := true }
def FnAddWatcherUptoSaid : Prop := fnAddWatcherUptoRow.holds Tryz.pinned (OpenSpec.upto fnAddWatcherSpec)

/-- 'laws.FnExactAddWatcher', WHERE WHAT IT READS IS OF BULK AT MOST 1048576: true; the input reads as it did. -/
def fnExactAddWatcherUptoRow : OpenClaim := { program := "ytceghmdneadhbaagreat", sum := "fa9d21dcf61d79c391648634cee9601e72763f79028c57c44a0b68457ae2ec0b", func := "loop.example/g01917/laws.FnExactAddWatcher", spec := "fnExactAddWatcher", recurses := true, apart := false, narrowed := true }
def FnExactAddWatcherUptoSaid : Prop := fnExactAddWatcherUptoRow.holds Tryz.pinned (OpenSpec.upto fnExactAddWatcherSpec)

end Rows
end Go.Proofs.YtceghmdneadhbaaGreat
