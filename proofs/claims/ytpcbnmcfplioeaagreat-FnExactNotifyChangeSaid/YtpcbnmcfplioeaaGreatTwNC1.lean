/-
 When a join tree, a decomposition and a plan are valid: the reference and the program agree. On the printed functions; conditions: lengths.
-/
import Derived.Test.YtpcbnmcfplioeaaGreatTrNC1
import Derived.Test.YtpcbnmcfplioeaaGreatQfNC1
namespace Go.Proofs.YtpcbnmcfplioeaaGreat
open Go.RowKit
set_option linter.unusedVariables false
set_option linter.unusedSimpArgs false
theorem AR {α β : Type} (a : α) (f : α -> Option β) : Ad (some a) f = f a:=rfl
end Go.Proofs.YtpcbnmcfplioeaaGreat
