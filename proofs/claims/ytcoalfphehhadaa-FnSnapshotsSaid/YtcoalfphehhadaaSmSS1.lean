/-
  Sizes: what the law's size check gives the pure texts. No conditions.
-/
import Derived.Test.YtcoalfphehhadaaHpSS1
import Derived.Test.YtcoalfphehhadaaVaSS1
-- pure
namespace Go.Proofs.Ytcoalfphehhadaa
open Go.RowKit
end Go.Proofs.Ytcoalfphehhadaa
