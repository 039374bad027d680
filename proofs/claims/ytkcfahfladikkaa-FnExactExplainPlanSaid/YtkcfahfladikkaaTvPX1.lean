/-
  IsValidPlan: the reference and the program give the same. No conditions.
-/
import Derived.Test.YtkcfahfladikkaaTvX1
import Derived.Test.YtkcfahfladikkaaHpX1
-- pure
namespace Go.Proofs.Ytkcfahfladikkaa
open Go.RowKit
set_option linter.unusedVariables false
theorem sm_lt {n : Nat} (h : n ≤ 1048576) : n < lim := by unfold lim; omega
theorem sm_q2 {q : Qry} (h : sm_Query q) : smQ q := ⟨sm_lim h.1.1, fun a ha => ⟨sm_lim (h.1.2 a ha).1, sm_lim (h.1.2 a ha).2⟩, sm_lim h.2⟩
theorem sm_pln {p : Pln} (h : sm_Plan p) : smPln p := ⟨sm_lim h.1, sm_lt h.2.1, sm_lt h.2.2.1.1, fun b hb => sm_lt (h.2.2.1.2 b hb), sm_lt h.2.2.2⟩
theorem pure_IsValidPlan {q : Qry} {p : Pln} (s0 : sm_Query q) (s1 : sm_Plan p) (k0 : ok79 q) (k1 : ok86 p) : ∃ r, spec_IsValidPlan q p = some r ∧ impl_IsValidPlan q p = some r := ⟨_, s_pln (sm_q2 s0) (sm_pln s1), i_pln (sm_q2 s0) (sm_pln s1)⟩
end Go.Proofs.Ytkcfahfladikkaa
