/-
  The laws' copies, comparisons and size checks on typed data, printed by genlaw.py. No conditions.
-/
import Derived.Test.YtmioifafgbjjhaaGenCS1
import Derived.Test.YtmioifafgbjjhaaTyCS1
namespace Go.Proofs.Ytmioifafgbjjhaa
open Go.RowKit
set_option linter.unusedVariables false
set_option linter.unusedSimpArgs false
end Go.Proofs.Ytmioifafgbjjhaa
