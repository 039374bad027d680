/-
  How the laws' arguments read as the machine's data, printed by genlaw.py. No conditions.
-/
import Derived.Test.YtkcfahfladikkaaKc
import Derived.Test.YtkcfahfladikkaaGenQ1
namespace Go.Proofs.Ytkcfahfladikkaa
open Go.RowKit Go.ChangeShapes Go.WideShapes Go.Deep
set_option linter.unusedVariables false
set_option maxRecDepth 100000
section
variable {H : Type} {enc : TypeId × Value → H} {w : World} {base : Nat} {spare : Nat → Bool} {held : Bool}
end
end Go.Proofs.Ytkcfahfladikkaa
