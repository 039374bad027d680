/-
  The functions' code as the program holds it, without places and edges; printed by genlit.py. No conditions.
-/
import Derived.Test.YtmioifafgbjjhaaLitDV1
namespace Go.Proofs.Ytmioifafgbjjhaa
open Go.RowKit
set_option linter.unusedVariables false
set_option maxRecDepth 100000
theorem lit4 : LitF 4 [3, 4, 7] [(83, 7), (89, 7), (96, 4), (100, 7), (107, 4)] [(3, [11]), (10, [54])] Try.f4 := litOf Try.func4 (by kernel_rfl)
end Go.Proofs.Ytmioifafgbjjhaa
