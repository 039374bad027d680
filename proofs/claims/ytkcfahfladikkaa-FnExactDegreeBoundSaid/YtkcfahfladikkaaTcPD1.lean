/-
  DegreeBound: the reference and the program give the same. No conditions.
-/
import Derived.Test.YtkcfahfladikkaaTcD1
import Derived.Test.YtkcfahfladikkaaSmD1
-- pure
namespace Go.Proofs.Ytkcfahfladikkaa
open Go.RowKit
set_option linter.unusedVariables false
theorem sm_q3 {q : Qry} (h : sm_Query q) : smQ q := ⟨sm_lim h.1.1, fun a ha => ⟨sm_lim (h.1.2 a ha).1, sm_lim (h.1.2 a ha).2⟩, sm_lim h.2⟩
theorem pure_DegreeBound {d : List Tbl} {q : Qry} {o : List Int} (s0 : sm_Database d) (s1 : sm_Query q) (s2 : sm_IntS o) (k0 : ok24 d) (k1 : ok79 q) (k2 : ok25 o) : ∃ r, spec_DegreeBound d q o = some r ∧ impl_DegreeBound d q o = some r := ⟨_, s_deg (sm_db s0) (sm_q3 s1) (sm_lim s2), i_deg (sm_db s0) (sm_q3 s1) (sm_lim s2)⟩
end Go.Proofs.Ytkcfahfladikkaa
