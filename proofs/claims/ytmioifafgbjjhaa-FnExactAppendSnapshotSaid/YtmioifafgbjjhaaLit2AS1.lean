/-
  The functions' code as the program holds it, without places and edges; printed by genlit.py. No conditions.
-/
import Derived.Test.YtmioifafgbjjhaaLitAS1
namespace Go.Proofs.Ytmioifafgbjjhaa
open Go.RowKit
set_option linter.unusedVariables false
set_option maxRecDepth 100000
theorem lit8 : LitF 8 [2, 3, 6, 8, 9, 10, 15] [] [(8, [27]), (11, [39]), (31, [94])] Try.f8 := litOf Try.func8 (by kernel_rfl)
end Go.Proofs.Ytmioifafgbjjhaa
