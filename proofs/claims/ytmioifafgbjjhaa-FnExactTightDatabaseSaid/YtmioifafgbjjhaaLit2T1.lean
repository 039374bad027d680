/-
  The functions' code as the program holds it, without places and edges; printed by genlit.py. No conditions.
-/
import Derived.Test.YtmioifafgbjjhaaLitT1
namespace Go.Proofs.Ytmioifafgbjjhaa
open Go.RowKit
set_option linter.unusedVariables false
set_option maxRecDepth 100000
theorem lit5 : LitF 5 [3, 8, 10, 12, 17] [] [(7, [27]), (10, [40]), (30, [96])] Try.f5 := litOf Try.func5 (by kernel_rfl)
end Go.Proofs.Ytmioifafgbjjhaa
