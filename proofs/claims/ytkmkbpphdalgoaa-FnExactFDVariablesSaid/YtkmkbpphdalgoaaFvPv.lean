/-
  FDVariables: the reference and the program give the same, and how much. No conditions.
-/
import Derived.Test.YtkmkbpphdalgoaaHpv
import Derived.Test.YtkmkbpphdalgoaaFvv
-- pure
namespace Go.Proofs.Ytkmkbpphdalgoaa
open Go.RowKit
set_option linter.unusedVariables false
theorem sm_q {q : Qry} (h : sm_Query q) : smQ q := ⟨sm_lim h.1.1, fun a ha => ⟨sm_lim (h.1.2 a ha).1, sm_lim (h.1.2 a ha).2⟩, sm_lim h.2⟩
theorem pure_FDVariables {q : Qry} {f : FDep} (s0 : sm_Query q) (s1 : sm_FunctionalDependency f) (k0 : ok50 q) (k1 : ok83 f) : ∃ r, spec_FDVariables q f = some r ∧ impl_FDVariables q f = some r ∧ sm_IntS r.1 ∧ sm_IntS r.2 := by
  have h := fdvs_len (q := q) (f := f)
  exact ⟨_, s_fdv (sm_q s0) (sm_lim s1.2), i_fdv (sm_q s0) (sm_lim s1.2), show _ ≤ 1048576 by omega, show _ ≤ 1048576 by omega⟩
end Go.Proofs.Ytkmkbpphdalgoaa
