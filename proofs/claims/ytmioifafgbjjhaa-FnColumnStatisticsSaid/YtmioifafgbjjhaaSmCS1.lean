/-
  Sizes: what the law's size check gives the pure texts. No conditions.
-/
import Derived.Test.YtmioifafgbjjhaaHpCS1
import Derived.Test.YtmioifafgbjjhaaVaCS1
-- pure
namespace Go.Proofs.Ytmioifafgbjjhaa
open Go.RowKit
end Go.Proofs.Ytmioifafgbjjhaa
