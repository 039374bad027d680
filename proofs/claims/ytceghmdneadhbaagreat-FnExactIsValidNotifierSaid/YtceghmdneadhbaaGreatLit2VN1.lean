/-
  The functions' code as the program holds it, without places and edges; printed by genlit.py. No conditions.
-/
import Derived.Test.YtceghmdneadhbaaGreatLitVN1
namespace Go.Proofs.YtceghmdneadhbaaGreat
open Go.RowKit
set_option linter.unusedVariables false
set_option maxRecDepth 100000
theorem lit3 : LitF 3 [1, 5] [] [] Tryz.f3 := litOf Tryz.func3 (by kernel_rfl)
end Go.Proofs.YtceghmdneadhbaaGreat
