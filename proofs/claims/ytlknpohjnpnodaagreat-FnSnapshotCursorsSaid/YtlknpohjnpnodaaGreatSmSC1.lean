/-
 Sizes: what the law's size check gives the pure texts. No conditions.
-/
import Derived.Test.YtlknpohjnpnodaaGreatHpSC1
import Derived.Test.YtlknpohjnpnodaaGreatVaSC1
namespace Go.Proofs.YtlknpohjnpnodaaGreat
open Go.RowKit
end Go.Proofs.YtlknpohjnpnodaaGreat
