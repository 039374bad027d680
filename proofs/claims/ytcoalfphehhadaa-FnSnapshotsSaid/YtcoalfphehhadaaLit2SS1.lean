/-
  The functions' code as the program holds it, without places and edges; printed by genlit.py. No conditions.
-/
import Derived.Test.YtcoalfphehhadaaLitSS1
namespace Go.Proofs.Ytcoalfphehhadaa
open Go.RowKit
set_option linter.unusedVariables false
set_option maxRecDepth 100000
theorem lit3 : LitF 3 [3, 4, 5, 7, 11, 13, 15, 17, 19] [(101, 3), (103, 3)] [(3, [23]), (4, [28]), (5, [34]), (14, [69]), (15, [75]), (18, [93]), (19, [100]), (20, [113])] Try.f3 := litOf Try.func3 (by kernel_rfl)
end Go.Proofs.Ytcoalfphehhadaa
