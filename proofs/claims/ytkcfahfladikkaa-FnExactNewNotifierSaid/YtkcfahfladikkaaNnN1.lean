/-
  NewNotifier: the reference and the program give the same, and how much. No conditions.
-/
import Derived.Test.YtkcfahfladikkaaSmN1
import Derived.Test.YtkcfahfladikkaaSnN1
-- pure
namespace Go.Proofs.Ytkcfahfladikkaa
open Go.RowKit
set_option linter.unusedVariables false
set_option linter.unusedSimpArgs false
theorem sm_noQ : sm_ViewS [] := ⟨by simp, fun x hx => by cases hx⟩
theorem sm_noC : sm_CountedRelationS [] := ⟨by simp, fun x hx => by cases hx⟩
theorem pure_NewNotifier {d : List Tbl} (s0 : sm_Database d) (k0 : ok24 d) : ∃ r, spec_NewNotifier d = some r ∧ impl_NewNotifier d = some r ∧ sm_Notifier r.1 := by
  have h := sm_db s0
  unfold spec_NewNotifier impl_NewNotifier
  simp only [s_db h, i_db h, obind, s_copyD h, i_copyD h]
  cases dbB d with
  | false => exact ⟨_, rfl, rfl, sm_noDb, sm_noQ, sm_noC⟩
  | true => exact ⟨_, rfl, rfl, s0, sm_noQ, sm_noC⟩
end Go.Proofs.Ytkcfahfladikkaa
