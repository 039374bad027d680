/-
  SnapshotAt: the reference and the program give the same, and how much. No conditions.
-/
import Derived.Test.YtceghmdneadhbaaGreatSmVN1
import Derived.Test.YtceghmdneadhbaaGreatFdVN1
-- pure
namespace Go.Proofs.YtceghmdneadhbaaGreat
open Go.RowKit
set_option linter.unusedVariables false
set_option linter.unusedSimpArgs false
theorem sm_noDb : sm_Database [] := ⟨by simp, fun x hx => by cases hx⟩
end Go.Proofs.YtceghmdneadhbaaGreat
