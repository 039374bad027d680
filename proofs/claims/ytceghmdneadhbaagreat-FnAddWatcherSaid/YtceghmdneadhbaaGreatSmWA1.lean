/-
 Sizes: what the law's size check gives the pure texts. No conditions.
-/
import Derived.Test.YtceghmdneadhbaaGreatHpWA1
import Derived.Test.YtceghmdneadhbaaGreatVaWA1
-- pure
namespace Go.Proofs.YtceghmdneadhbaaGreat
open Go.RowKit
end Go.Proofs.YtceghmdneadhbaaGreat
