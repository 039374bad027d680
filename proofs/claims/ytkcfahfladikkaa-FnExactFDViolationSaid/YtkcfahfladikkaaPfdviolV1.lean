/-
  The law of FDViolation on typed functions. No conditions.
-/
import Derived.Test.YtkcfahfladikkaaFvioV1
namespace Go.Proofs.Ytkcfahfladikkaa
open Go.RowKit
set_option linter.unusedVariables false
set_option linter.unusedSimpArgs false
set_option maxRecDepth 100000
theorem law_FDViolation {a0 : (List ((List UInt8) × (Int × (List (List Int)))))} {a1 : (List UInt8) × (List Int) × Int} (k0 : ok24 a0) (k1 : ok27 a1) : laws_FnExactFDViolation a0 a1 = some true := by
  unfold laws_FnExactFDViolation
  obtain ⟨v0, e0, p0⟩ := sz_Database k0 (left := 1048576) (by omega)
  rw [e0]
  rcases p0 with p0 | ⟨x0, p0, s0⟩
  · simp only [obind]; rw [decide_eq_true p0]; rfl
  simp only [obind]
  rw [decide_eq_false (by omega : ¬ v0 < 0)]
  obtain ⟨v1, e1, p1⟩ := sz_FunctionalDependency k1 (left := v0) (by omega)
  rw [e1]
  rcases p1 with p1 | ⟨x1, p1, s1⟩
  · simp only [obind]; rw [decide_eq_true p1]; rfl
  simp only [obind, cond_false]
  rw [decide_eq_false (by omega : ¬ v1 < 0)]
  rw [cond_false]
  obtain ⟨r, hs, hi, y0⟩ := pure_FDViolation s0 s1 k0 k1
  have b0 := cbs_Database s0
  have m0 := laws_markDatabase_e (x := a0) (k := 1) (by omega) (by unfold mB; omega)
  have b1 := cbs_FunctionalDependency s1
  have m1 := laws_markFunctionalDependency_e (x := a1) (k := 1 + (cs33 a0 : Int)) (by omega) (by unfold mB; omega)
  have z0 : ¬ (1 + (cs33 a0 : Int) + (cs35 a1 : Int) < 0) := by omega
  have c0 := cb_IntS y0
  have n0 := laws_markIntS_e (x := r) (k := 1) (by omega) (by unfold mB; omega)
  have h0 := held_IntS (x := r) (k := 1) (sm_lim (show _ from y0)) (by omega) (by unfold mB; omega)
  have u0 : ¬ (1 + (ce25 r : Int) < 0) := by omega
  simp [obind, hs, hi, to_Database s0, eq_Database s0, m0, to_FunctionalDependency s1, eq_FunctionalDependency s1, m1, z0, n0, eq_IntS y0, h0, u0]
end Go.Proofs.Ytkcfahfladikkaa
