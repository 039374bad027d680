/-
  The functions' code as the program holds it, without places and edges; printed by genlit.py. No conditions.
-/
import Derived.Test.YtmjhiencoapldaaGreatLitDG1
namespace Go.Proofs.YtmjhiencoapldaaGreat
open Go.RowKit
set_option linter.unusedVariables false
set_option maxRecDepth 100000
theorem lit3 : LitF 3 [3, 4, 10] [] [(3, [13])] Tryz.f3 := litOf Tryz.func3 (by kernel_rfl)
end Go.Proofs.YtmjhiencoapldaaGreat
