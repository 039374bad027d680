/-
  EqualNotifiers: the reference and the program give the same. No conditions.
-/
import Derived.Test.YtkcfahfladikkaaEnE1
import Derived.Test.YtkcfahfladikkaaSmE1
-- pure
namespace Go.Proofs.Ytkcfahfladikkaa
open Go.RowKit
set_option linter.unusedVariables false
theorem sm_qe {q : QryE} (h : sm_Query q) : smQE q := ⟨sm_lim h.1.1, fun a ha => sm_lim (h.1.2 a ha).2, sm_lim h.2⟩
theorem sm_ce {c : Cnt} (h : sm_CountedRelation c) : smCnt c := ⟨sm_rows h.1, sm_lim h.2⟩
theorem sm_ntf {n : Ntf} (h : sm_Notifier n) : smNtf n := ⟨sm_db h.1, ⟨sm_lim h.2.1.1, fun v hv => ⟨sm_qe (h.2.1.2 v hv).1, sm_ce (h.2.1.2 v hv).2⟩⟩, sm_lim h.2.2.1, fun c hc => sm_ce (h.2.2.2 c hc)⟩
theorem pure_EqualNotifiers {a b : Ntf} (s0 : sm_Notifier a) (s1 : sm_Notifier b) (k0 : ok68 a) (k1 : ok68 b) : ∃ r, spec_EqualNotifiers a b = some r ∧ impl_EqualNotifiers a b = some r := ⟨_, s_ntfEq (sm_ntf s0), i_ntfEq (sm_ntf s0)⟩
end Go.Proofs.Ytkcfahfladikkaa
