/-
  Sizes: what the law's size check gives the pure texts. No conditions.
-/
import Derived.Test.YtceghmdneadhbaaGreatHpAW1
import Derived.Test.YtceghmdneadhbaaGreatVaAW1
-- pure
namespace Go.Proofs.YtceghmdneadhbaaGreat
open Go.RowKit
theorem sm_rows {l : List (List Int)} (h : sm_IntSS l) : smRows l := ⟨sm_lim h.1, fun r hr => sm_lim (h.2 r hr)⟩
theorem sm_db {d : List Tbl} (h : sm_Database d) : smDb d := ⟨sm_lim h.1, fun t ht => ⟨sm_lim (h.2 t ht).1, sm_rows (h.2 t ht).2⟩⟩
end Go.Proofs.YtceghmdneadhbaaGreat
