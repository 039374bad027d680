/-
  The functions' code as the program holds it, without places and edges; printed by genlit.py. No conditions.
-/
import Derived.Test.YtkcfahfladikkaaLitF1
namespace Go.Proofs.Ytkcfahfladikkaa
open Go.RowKit
set_option linter.unusedVariables false
set_option maxRecDepth 100000
theorem lit12 : LitF 12 [3, 4, 10, 11] [] [] Try.f12 := litOf Try.func12 (by kernel_rfl)
end Go.Proofs.Ytkcfahfladikkaa
