/-
  Sizes: what the law's size check gives the pure texts. No conditions.
-/
import Derived.Test.YtmjhiencoapldaaGreatHpDS1
import Derived.Test.YtmjhiencoapldaaGreatVaDS1
-- pure
namespace Go.Proofs.YtmjhiencoapldaaGreat
open Go.RowKit
end Go.Proofs.YtmjhiencoapldaaGreat
