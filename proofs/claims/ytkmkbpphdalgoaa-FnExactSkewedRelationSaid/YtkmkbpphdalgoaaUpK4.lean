/-
  The laws' arguments as data that stay whole, printed by genlaw.py. No conditions.
-/
import Derived.Test.YtkmkbpphdalgoaaKc
import Derived.Test.YtkmkbpphdalgoaaMfK4
namespace Go.Proofs.Ytkmkbpphdalgoaa
open Go.RowKit
set_option linter.unusedVariables false
end Go.Proofs.Ytkmkbpphdalgoaa
