/-
  The law of FDBound on typed functions. No conditions.
-/
import Derived.Test.YtkcfahfladikkaaFbPF1
namespace Go.Proofs.Ytkcfahfladikkaa
open Go.RowKit
set_option linter.unusedVariables false
set_option linter.unusedSimpArgs false
set_option maxRecDepth 100000
theorem law_FDBound {a0 : List Y205} {a1 : Y78} {a2 : List Y26} (k0 : ok24 a0) (k1 : ok79 a1) (k2 : ok119 a2) : laws_FnExactFDBound a0 a1 a2 = some true := by
  unfold laws_FnExactFDBound
  obtain ⟨v0, e0, p0⟩ := sz_Database k0 (left := 1048576) (by omega)
  rw [e0]
  rcases p0 with p0 | ⟨x0, p0, s0⟩
  · simp only [obind]; rw [decide_eq_true p0]; rfl
  simp only [obind]
  rw [decide_eq_false (by omega : ¬ v0 < 0)]
  obtain ⟨v1, e1, p1⟩ := sz_Query k1 (left := v0) (by omega)
  rw [e1]
  rcases p1 with p1 | ⟨x1, p1, s1⟩
  · simp only [obind]; rw [decide_eq_true p1]; rfl
  simp only [obind, cond_false]
  rw [decide_eq_false (by omega : ¬ v1 < 0)]
  obtain ⟨v2, e2, p2⟩ := sz_FunctionalDependencyS k2 (left := v1) (by omega)
  rw [e2]
  rcases p2 with p2 | ⟨x2, p2, s2⟩
  · simp only [obind]; rw [decide_eq_true p2]; rfl
  simp only [obind, cond_false]
  rw [decide_eq_false (by omega : ¬ v2 < 0)]
  rw [cond_false]
  obtain ⟨r, hs, hi⟩ := pure_FDBound s0 s1 s2 k0 k1 k2
  simp [obind, hs, hi, to_Database s0, eq_Database s0, to_Query s1, eq_Query s1, to_FunctionalDependencyS s2, eq_FunctionalDependencyS s2]
end Go.Proofs.Ytkcfahfladikkaa
