/-
  The functions' code as the program holds it, without places and edges; printed by genlit.py. No conditions.
-/
import Derived.Test.YtkclaipnejgloaaGreatDoorLitIF1
namespace Go.Proofs.YtkclaipnejgloaaGreatDoor
open Go.RowKit
set_option linter.unusedVariables false
set_option maxRecDepth 100000
theorem kH : Bb 3 [3, 4, 5, 9, 10, 11] [] [] Tryz.f3 := Av Tryz.func3 (by kernel_rfl)
end Go.Proofs.YtkclaipnejgloaaGreatDoor
