/-
  FDClosure: the reference and the program give the same, and how much. No conditions.
-/
import Derived.Test.YtkmkbpphdalgoaaHpc
import Derived.Test.YtkmkbpphdalgoaaFcc
-- pure
namespace Go.Proofs.Ytkmkbpphdalgoaa
open Go.RowKit
set_option linter.unusedVariables false
theorem sm_q {q : Qry} (h : sm_Query q) : smQ q := ⟨sm_lim h.1.1, fun a ha => ⟨sm_lim (h.1.2 a ha).1, sm_lim (h.1.2 a ha).2⟩, sm_lim h.2⟩
theorem pure_FDClosure {q : Qry} {fs : List FDep} {vs : List Int} (s0 : sm_Query q) (s1 : sm_FunctionalDependencyS fs) (s2 : sm_IntS vs) (k0 : ok50 q) (k1 : ok111 fs) (k2 : ok30 vs) : ∃ r, spec_FDClosure q fs vs = some r ∧ impl_FDClosure q fs vs = some r ∧ sm_IntS r := by
  have h := clos_len (q := q) (fs := fs) (vs := vs)
  have hf : ∀ f ∈ fs, f.2.1.length ≤ lim := fun f hf => sm_lim (s1.2 f hf).2
  exact ⟨_, s_clos (sm_q s0) (sm_lim s1.1) hf (sm_lim (show _ from s2)), i_clos (sm_q s0) (sm_lim s1.1) hf (sm_lim (show _ from s2)), show _ ≤ 1048576 by omega⟩
end Go.Proofs.Ytkmkbpphdalgoaa
