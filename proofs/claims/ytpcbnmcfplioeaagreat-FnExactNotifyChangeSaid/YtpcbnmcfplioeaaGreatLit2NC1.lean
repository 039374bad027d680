/-
 The functions' code as the program holds it, without places and edges; printed by genlit.py. No conditions.
-/
import Derived.Test.YtpcbnmcfplioeaaGreatLitNC1
namespace Go.Proofs.YtpcbnmcfplioeaaGreat
open Go.RowKit
set_option linter.unusedVariables false
set_option maxRecDepth 100000
theorem pI : Bj 4 [2,3,6,9,10,11,17] [] [(8,[30]),(11,[43]),(35,[119])] Tryz.f4 := AE Tryz.func4 (by kernel_rfl)
end Go.Proofs.YtpcbnmcfplioeaaGreat
