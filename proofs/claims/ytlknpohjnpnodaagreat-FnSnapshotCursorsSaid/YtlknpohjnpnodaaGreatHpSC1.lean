/-
 The laws' copies, comparisons and size checks on typed data, printed by genlaw.py. No conditions.
-/
import Derived.Test.YtlknpohjnpnodaaGreatGenSC1
import Derived.Test.YtlknpohjnpnodaaGreatTySC1
namespace Go.Proofs.YtlknpohjnpnodaaGreat
open Go.RowKit
set_option linter.unusedVariables false
set_option linter.unusedSimpArgs false
end Go.Proofs.YtlknpohjnpnodaaGreat
