/-
  The functions' code as the program holds it, without places and edges; printed by genlit.py. No conditions.
-/
import Derived.Test.YtmioifafgbjjhaaLitCS1
namespace Go.Proofs.Ytmioifafgbjjhaa
open Go.RowKit
set_option linter.unusedVariables false
set_option maxRecDepth 100000
theorem lit3 : LitF 3 [3, 6, 7, 14] [] [(3, [18]), (4, [24]), (5, [32]), (17, [87])] Try.f3 := litOf Try.func3 (by kernel_rfl)
end Go.Proofs.Ytmioifafgbjjhaa
