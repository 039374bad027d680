/-
  The laws' arguments as data that stay whole, printed by genlaw.py. No conditions.
-/
import Derived.Test.YtkcfahfladikkaaKc
import Derived.Test.YtkcfahfladikkaaMfQ1
namespace Go.Proofs.Ytkcfahfladikkaa
open Go.RowKit
set_option linter.unusedVariables false
end Go.Proofs.Ytkcfahfladikkaa
