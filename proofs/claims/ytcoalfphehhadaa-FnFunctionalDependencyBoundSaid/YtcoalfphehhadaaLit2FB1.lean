/-
  The functions' code as the program holds it, without places and edges; printed by genlit.py. No conditions.
-/
import Derived.Test.YtcoalfphehhadaaLitFB1
namespace Go.Proofs.Ytcoalfphehhadaa
open Go.RowKit
set_option linter.unusedVariables false
set_option maxRecDepth 100000
theorem lit5 : LitF 5 [3, 9, 10] [] [(3, [18]), (7, [47]), (13, [68])] Try.f5 := litOf Try.func5 (by kernel_rfl)
end Go.Proofs.Ytcoalfphehhadaa
