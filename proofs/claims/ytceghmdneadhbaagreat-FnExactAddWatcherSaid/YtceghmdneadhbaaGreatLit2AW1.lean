/-
  The functions' code as the program holds it, without places and edges; printed by genlit.py. No conditions.
-/
import Derived.Test.YtceghmdneadhbaaGreatLitAW1
namespace Go.Proofs.YtceghmdneadhbaaGreat
open Go.RowKit
set_option linter.unusedVariables false
set_option maxRecDepth 100000
theorem lit6 : LitF 6 [2, 3, 6, 8, 9, 10, 15] [] [(8, [27]), (11, [39]), (31, [94])] Tryz.f6 := litOf Tryz.func6 (by kernel_rfl)
end Go.Proofs.YtceghmdneadhbaaGreat
