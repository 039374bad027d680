/-
  The functions' code as the program holds it, without places and edges; printed by genlit.py. No conditions.
-/
import Derived.Test.YtceghmdneadhbaaGreatLitWR1
namespace Go.Proofs.YtceghmdneadhbaaGreat
open Go.RowKit
set_option linter.unusedVariables false
set_option maxRecDepth 100000
theorem lit4 : LitF 4 [2, 6, 8, 9, 14] [] [(5, [21]), (7, [30]), (24, [77])] Tryz.f4 := litOf Tryz.func4 (by kernel_rfl)
end Go.Proofs.YtceghmdneadhbaaGreat
