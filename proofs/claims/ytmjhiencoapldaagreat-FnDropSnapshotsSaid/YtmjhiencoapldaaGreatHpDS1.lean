/-
  The laws' copies, comparisons and size checks on typed data, printed by genlaw.py. No conditions.
-/
import Derived.Test.YtmjhiencoapldaaGreatGenDS1
import Derived.Test.YtmjhiencoapldaaGreatTyDS1
namespace Go.Proofs.YtmjhiencoapldaaGreat
open Go.RowKit
set_option linter.unusedVariables false
set_option linter.unusedSimpArgs false
end Go.Proofs.YtmjhiencoapldaaGreat
