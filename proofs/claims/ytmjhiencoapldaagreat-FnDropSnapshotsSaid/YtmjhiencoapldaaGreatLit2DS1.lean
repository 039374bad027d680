/-
  The functions' code as the program holds it, without places and edges; printed by genlit.py. No conditions.
-/
import Derived.Test.YtmjhiencoapldaaGreatLitDS1
namespace Go.Proofs.YtmjhiencoapldaaGreat
open Go.RowKit
set_option linter.unusedVariables false
set_option maxRecDepth 100000
theorem lit5 : LitF 5 [3, 5, 7, 9, 11, 13, 15] [(101, 5), (107, 5), (109, 5), (113, 3), (115, 3), (133, 13), (135, 3), (137, 3), (144, 13)] [(3, [19]), (10, [39]), (11, [49]), (14, [71]), (15, [76]), (16, [83])] Tryz.f5 := litOf Tryz.func5 (by kernel_rfl)
end Go.Proofs.YtmjhiencoapldaaGreat
