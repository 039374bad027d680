/-
  The functions' code as the program holds it, without places and edges; printed by genlit.py. No conditions.
-/
import Derived.Test.YtcoalfphehhadaaLitDU1
namespace Go.Proofs.Ytcoalfphehhadaa
open Go.RowKit
set_option linter.unusedVariables false
set_option maxRecDepth 100000
theorem lit4 : LitF 4 [2, 6, 7, 9, 13] [] [] Try.f4 := litOf Try.func4 (by kernel_rfl)
end Go.Proofs.Ytcoalfphehhadaa
