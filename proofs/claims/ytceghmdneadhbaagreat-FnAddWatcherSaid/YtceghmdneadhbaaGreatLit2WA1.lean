/-
 The functions' code as the program holds it, without places and edges; printed by genlit.py. No conditions.
-/
import Derived.Test.YtceghmdneadhbaaGreatLitWA1
namespace Go.Proofs.YtceghmdneadhbaaGreat
open Go.RowKit
set_option linter.unusedVariables false
set_option maxRecDepth 100000
theorem lit5 : LitF 5 [3, 4, 5, 7, 10, 12, 14] [] [(3, [18]), (4, [23]), (5, [29]), (11, [53]), (12, [59]), (13, [66])] Tryz.f5 := litOf Tryz.func5 (by kernel_rfl)
end Go.Proofs.YtceghmdneadhbaaGreat
