/-
  ActiveDomain: the reference and the program give the same, and how much. No conditions.
-/
import Derived.Test.YtkmkbpphdalgoaaHpd
import Derived.Test.YtkmkbpphdalgoaaAdd
-- pure
namespace Go.Proofs.Ytkmkbpphdalgoaa
open Go.RowKit
set_option linter.unusedVariables false
theorem sm_db {d : List Tbl} (h : sm_Database d) : smDb d := ⟨sm_lim h.1, fun t ht => ⟨sm_lim (h.2 t ht).1, sm_lim (h.2 t ht).2.1, fun r hr => sm_lim ((h.2 t ht).2.2 r hr)⟩⟩
theorem pure_ActiveDomain {d : List Tbl} (s0 : sm_Database d) (k0 : ok95 d) : ∃ r, spec_ActiveDomain d = some r ∧ impl_ActiveDomain d = some r ∧ sm_IntS r := by
  have h := ad_len (d := d)
  exact ⟨_, s_ad (sm_db s0), i_ad (sm_db s0), show _ ≤ 1048576 by omega⟩
end Go.Proofs.Ytkmkbpphdalgoaa
