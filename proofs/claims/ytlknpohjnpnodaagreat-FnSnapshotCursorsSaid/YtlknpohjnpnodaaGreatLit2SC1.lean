/-
  The functions' code as the program holds it, without places and edges; printed by genlit.py. No conditions.
-/
import Derived.Test.YtlknpohjnpnodaaGreatLitSC1
namespace Go.Proofs.YtlknpohjnpnodaaGreat
open Go.RowKit
set_option linter.unusedVariables false
set_option maxRecDepth 100000
theorem kM : Bv 3 [3, 4, 5, 8, 11, 12, 13] [] [(3, [18]), (4, [23]), (5, [30]), (10, [58]), (12, [66]), (13, [72]), (14, [74]), (15, [77])] Tryz.f3 := AD Tryz.func3 (by kernel_rfl)
end Go.Proofs.YtlknpohjnpnodaaGreat
