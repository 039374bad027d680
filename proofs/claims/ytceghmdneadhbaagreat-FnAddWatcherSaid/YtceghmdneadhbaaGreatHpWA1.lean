/-
 The laws' copies, comparisons and size checks on typed data, printed by genlaw.py. No conditions.
-/
import Derived.Test.YtceghmdneadhbaaGreatGenWA1
import Derived.Test.YtceghmdneadhbaaGreatTyWA1
namespace Go.Proofs.YtceghmdneadhbaaGreat
open Go.RowKit
set_option linter.unusedVariables false
set_option linter.unusedSimpArgs false
end Go.Proofs.YtceghmdneadhbaaGreat
