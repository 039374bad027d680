/-
  The law of EqualNotifiers on typed functions. No conditions.
-/
import Derived.Test.YtkcfahfladikkaaEnPE1
namespace Go.Proofs.Ytkcfahfladikkaa
open Go.RowKit
set_option linter.unusedVariables false
set_option linter.unusedSimpArgs false
set_option maxRecDepth 100000
theorem law_EqualNotifiers {a0 : Y67} {a1 : Y67} (k0 : ok68 a0) (k1 : ok68 a1) : laws_FnExactEqualNotifiers a0 a1 = some true := by
  unfold laws_FnExactEqualNotifiers
  obtain ⟨v0, e0, p0⟩ := sz_Notifier k0 (left := 1048576) (by omega)
  rw [e0]
  rcases p0 with p0 | ⟨x0, p0, s0⟩
  · simp only [obind]; rw [decide_eq_true p0]; rfl
  simp only [obind]
  rw [decide_eq_false (by omega : ¬ v0 < 0)]
  obtain ⟨v1, e1, p1⟩ := sz_Notifier k1 (left := v0) (by omega)
  rw [e1]
  rcases p1 with p1 | ⟨x1, p1, s1⟩
  · simp only [obind]; rw [decide_eq_true p1]; rfl
  simp only [obind, cond_false]
  rw [decide_eq_false (by omega : ¬ v1 < 0)]
  rw [cond_false]
  obtain ⟨r, hs, hi⟩ := pure_EqualNotifiers s0 s1 k0 k1
  simp [obind, hs, hi, to_Notifier s0, eq_Notifier s0, to_Notifier s1, eq_Notifier s1]
end Go.Proofs.Ytkcfahfladikkaa
