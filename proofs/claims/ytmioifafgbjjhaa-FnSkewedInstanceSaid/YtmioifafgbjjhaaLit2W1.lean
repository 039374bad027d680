/-
  The functions' code as the program holds it, without places and edges; printed by genlit.py. No conditions.
-/
import Derived.Test.YtmioifafgbjjhaaLitW1
namespace Go.Proofs.Ytmioifafgbjjhaa
open Go.RowKit
set_option linter.unusedVariables false
set_option maxRecDepth 100000
theorem lit9 : LitF 9 [4, 6, 8, 9, 11, 14] [(68, 6), (78, 4), (98, 11)] [(4, [23]), (5, [28]), (7, [44]), (8, [48]), (9, [55])] Try.f9 := litOf Try.func9 (by kernel_rfl)
end Go.Proofs.Ytmioifafgbjjhaa
