/-
  The laws' copies, comparisons and size checks on typed data, printed by genlaw.py. No conditions.
-/
import Derived.Test.YtkmkbpphdalgoaaHpH
import Derived.Test.YtkmkbpphdalgoaaGF
import Derived.Test.YtkmkbpphdalgoaaTyF
namespace Go.Proofs.Ytkmkbpphdalgoaa
open Go.RowKit
set_option linter.unusedVariables false
set_option linter.unusedSimpArgs false
def sm_FunctionalDependency (a : (List UInt8) × (List Int) × Int) : Prop := List.length a.1 ≤ 1048576 ∧ sm_IntS a.2.1
theorem to_FunctionalDependency {a : (List UInt8) × (List Int) × Int} (h : sm_FunctionalDependency a) : laws_toFunctionalDependency a = some a := by
  unfold laws_toFunctionalDependency
  simp only [to_IntS (h.2), obind] <;> rfl
theorem eq_FunctionalDependency {a : (List UInt8) × (List Int) × Int} (h : sm_FunctionalDependency a) : laws_eqFunctionalDependency a a = some true := by
  simp [laws_eqFunctionalDependency, eq_IntS (h.2), obind]
theorem sz_FunctionalDependency {a : (List UInt8) × (List Int) × Int} (k : ok83 a) {left : Int} (h : 0 ≤ left ∧ left ≤ 1048576) : SzR left (laws_szFunctionalDependency a left) (sm_FunctionalDependency a) := by
  unfold laws_szFunctionalDependency
  have h0 : 0 ≤ left ∧ left ≤ 1048576 := h
  obtain ⟨v0, e0, p0⟩ := sz_w h0 k.1
  rw [e0]
  rcases p0 with p0 | ⟨p0, q0, s0⟩
  · simp only [obind]; rw [decide_eq_true p0]; exact ⟨-1, rfl, .inl (by omega)⟩
  simp only [obind]
  rw [decide_eq_false (by omega : ¬ v0 < 0)]
  simp only [cond_false]
  have h1 : 0 ≤ v0 ∧ v0 ≤ 1048576 := by omega
  obtain ⟨v1, e1, p1⟩ := sz_IntS (k.2.1) h1
  rw [e1]
  rcases p1 with p1 | ⟨p1, q1, s1⟩
  · simp only [obind]; rw [decide_eq_true p1]; exact ⟨-1, rfl, .inl (by omega)⟩
  simp only [obind]
  rw [decide_eq_false (by omega : ¬ v1 < 0)]
  simp only [cond_false]
  exact ⟨v1, rfl, .inr ⟨by omega, q1, s0, s1⟩⟩
end Go.Proofs.Ytkmkbpphdalgoaa
