/-
  FDBound: the reference and the program agree, for all arguments of the law. Conditions: none beyond the law's own.
-/
import Derived.Test.YtkcfahfladikkaaFbF1
import Derived.Test.YtkcfahfladikkaaSmF1
-- pure
namespace Go.Proofs.Ytkcfahfladikkaa
open Go.RowKit
set_option linter.unusedVariables false
theorem sm_q {q : Qry} (h : sm_Query q) : smQ q := ⟨sm_lim h.1.1, fun a ha => ⟨sm_lim (h.1.2 a ha).1, sm_lim (h.1.2 a ha).2⟩, sm_lim h.2⟩
theorem pure_FDBound {d : List Tbl} {q : Qry} {fs : List FDep} (s0 : sm_Database d) (s1 : sm_Query q) (s2 : sm_FunctionalDependencyS fs) (k0 : ok24 d) (k1 : ok79 q) (k2 : ok119 fs) : ∃ r, spec_FDBound d q fs = some r ∧ impl_FDBound d q fs = some r := by
  have hf : ∀ f ∈ fs, f.2.1.length ≤ lim := fun f hf => sm_lim (s2.2 f hf).2
  exact ⟨_, s_fb (sm_db s0) (sm_q s1) (sm_lim s2.1) hf, i_fb (sm_db s0) (sm_q s1) (sm_lim s2.1) hf⟩
end Go.Proofs.Ytkcfahfladikkaa
