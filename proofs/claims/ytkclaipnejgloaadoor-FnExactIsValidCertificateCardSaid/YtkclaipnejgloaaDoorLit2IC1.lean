/-
  The functions' code as the program holds it, without places and edges; printed by genlit.py. No conditions.
-/
import Derived.Test.YtkclaipnejgloaaDoorLitIC1
namespace Go.Proofs.YtkclaipnejgloaaDoor
open Go.RowKit
set_option linter.unusedVariables false
set_option maxRecDepth 100000
theorem lit3 : LitF 3 [2, 3, 7, 8] [] [] Tryd.f3 := litOf Tryd.func3 (by kernel_rfl)
end Go.Proofs.YtkclaipnejgloaaDoor
