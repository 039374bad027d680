/-
  The law of ExplainPlan on typed functions. No conditions.
-/
import Derived.Test.YtkcfahfladikkaaExX1
namespace Go.Proofs.Ytkcfahfladikkaa
open Go.RowKit
set_option linter.unusedVariables false
set_option linter.unusedSimpArgs false
set_option maxRecDepth 100000
theorem law_ExplainPlan {a0 : Y78} {a1 : Y85} (k0 : ok79 a0) (k1 : ok86 a1) : laws_FnExactExplainPlan a0 a1 = some true := by
  unfold laws_FnExactExplainPlan
  obtain ⟨v0, e0, p0⟩ := sz_Query k0 (left := 1048576) (by omega)
  rw [e0]
  rcases p0 with p0 | ⟨x0, p0, s0⟩
  · simp only [obind]; rw [decide_eq_true p0]; rfl
  simp only [obind]
  rw [decide_eq_false (by omega : ¬ v0 < 0)]
  obtain ⟨v1, e1, p1⟩ := sz_Plan k1 (left := v0) (by omega)
  rw [e1]
  rcases p1 with p1 | ⟨x1, p1, s1⟩
  · simp only [obind]; rw [decide_eq_true p1]; rfl
  simp only [obind, cond_false]
  rw [decide_eq_false (by omega : ¬ v1 < 0)]
  rw [cond_false]
  obtain ⟨r, hs, hi⟩ := pure_ExplainPlan s0 s1 k0 k1
  simp [obind, hs, hi, to_Query s0, eq_Query s0, to_Plan s1, eq_Plan s1]
end Go.Proofs.Ytkcfahfladikkaa
