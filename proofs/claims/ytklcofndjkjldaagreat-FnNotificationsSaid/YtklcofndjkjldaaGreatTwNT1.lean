/-
 When a join tree, a decomposition and a plan are valid: the reference and the program agree. On the printed functions; conditions: lengths.
-/
import Derived.Test.YtklcofndjkjldaaGreatTrNT1
import Derived.Test.YtklcofndjkjldaaGreatQfNT1
namespace Go.Proofs.YtklcofndjkjldaaGreat
open Go.RowKit
set_option linter.unusedVariables false
set_option linter.unusedSimpArgs false
theorem AE {α β : Type} (a : α) (f : α -> Option β) : Ad (some a) f = f a:=rfl
end Go.Proofs.YtklcofndjkjldaaGreat
