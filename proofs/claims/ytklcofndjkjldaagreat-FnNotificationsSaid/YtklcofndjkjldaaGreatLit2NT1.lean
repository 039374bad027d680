/-
  The functions' code as the program holds it, without places and edges; printed by genlit.py. No conditions.
-/
import Derived.Test.YtklcofndjkjldaaGreatLitNT1
namespace Go.Proofs.YtklcofndjkjldaaGreat
open Go.RowKit
set_option linter.unusedVariables false
set_option maxRecDepth 100000
theorem iL : BF 3 [3, 4, 5, 8, 12, 14, 16] [(78, 3), (97, 5), (99, 3), (129, 5), (138, 5)] [(3, [20]), (4, [25]), (5, [32]), (13, [77]), (14, [90]), (15, [96])] Tryz.f3 := AI Tryz.func3 (by kernel_rfl)
end Go.Proofs.YtklcofndjkjldaaGreat
