/-
 The laws' copies, comparisons and size checks on typed data, printed by genlaw.py. No conditions.
-/
import Derived.Test.YtklcofndjkjldaaGreatGenNT1
import Derived.Test.YtklcofndjkjldaaGreatTyNT1
namespace Go.Proofs.YtklcofndjkjldaaGreat
open Go.RowKit
set_option linter.unusedVariables false
set_option linter.unusedSimpArgs false
end Go.Proofs.YtklcofndjkjldaaGreat
