/-
  The law of IsValidCertificate on typed functions. No conditions.
-/
import Derived.Test.YtkclaipnejgloaaDoorIcPIC1
namespace Go.Proofs.YtkclaipnejgloaaDoor
open Go.RowKit
set_option linter.unusedVariables false
set_option linter.unusedSimpArgs false
set_option maxRecDepth 100000
theorem law_IsValidCertificate {a0 : Y24} {a1 : Y27} (k0 : ok25 a0) (k1 : ok28 a1) : laws_FnExactIsValidCertificate a0 a1 = some true := by
  unfold laws_FnExactIsValidCertificate
  obtain ⟨v0, e0, p0⟩ := sz_Query k0 (left := 1048576) (by omega)
  rw [e0]
  rcases p0 with p0 | ⟨x0, p0, s0⟩
  · simp only [obind]; rw [decide_eq_true p0]; rfl
  simp only [obind]
  rw [decide_eq_false (by omega : ¬ v0 < 0)]
  obtain ⟨v1, e1, p1⟩ := sz_Certificate k1 (left := v0) (by omega)
  rw [e1]
  rcases p1 with p1 | ⟨x1, p1, s1⟩
  · simp only [obind]; rw [decide_eq_true p1]; rfl
  simp only [obind, cond_false]
  rw [decide_eq_false (by omega : ¬ v1 < 0)]
  rw [cond_false]
  obtain ⟨r, hs, hi⟩ := pure_IsValidCertificate s0 s1 k0 k1
  simp [obind, hs, hi, to_Query s0, eq_Query s0, to_Certificate s1, eq_Certificate s1]
end Go.Proofs.YtkclaipnejgloaaDoor
