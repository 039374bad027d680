/-
  The functions' code as the program holds it, without places and edges; printed by genlit.py. No conditions.
-/
import Derived.Test.YtlknpohjnpnodaaGreatLitAC1
namespace Go.Proofs.YtlknpohjnpnodaaGreat
open Go.RowKit
set_option linter.unusedVariables false
set_option maxRecDepth 100000
theorem lit4 : LitF 4 [2, 3, 6, 9, 10, 11, 17] [] [(8, [30]), (11, [43]), (35, [119])] Tryz.f4 := litOf Tryz.func4 (by kernel_rfl)
end Go.Proofs.YtlknpohjnpnodaaGreat
