/-
  The law of SplitHeavy on typed functions. No conditions.
-/
import Derived.Test.YtkmkbpphdalgoaaShPK3
namespace Go.Proofs.Ytkmkbpphdalgoaa
open Go.RowKit
set_option linter.unusedVariables false
set_option linter.unusedSimpArgs false
set_option maxRecDepth 100000
theorem law_SplitHeavy {a0 : Int × (List (List Int))} {a1 : Int} {a2 : Int} (k0 : ok42 a0) (k1 : InI a1) (k2 : InI a2) : laws_FnExactSplitHeavy a0 a1 a2 = some true := by
  unfold laws_FnExactSplitHeavy
  obtain ⟨v0, e0, p0⟩ := sz_Relation k0 (left := 1048576) (by omega)
  rw [e0]
  rcases p0 with p0 | ⟨x0, p0, s0⟩
  · simp only [obind]; rw [decide_eq_true p0]; rfl
  simp only [obind]
  rw [decide_eq_false (by omega : ¬ v0 < 0)]
  rw [cond_false]
  obtain ⟨r, hs, hi, y0, y1⟩ := pure_SplitHeavy s0 k0 k1 k2
  have b0 := cbs_Relation s0
  have m0 := laws_markRelation_e (x := a0) (k := 1) (by omega) (by unfold mB; omega)
  have z0 : ¬ (1 + (cs24 a0 : Int) < 0) := by omega
  have c0 := cbs_Relation y0
  have n0 := laws_markRelation_e (x := r.1) (k := 1) (by omega) (by unfold mB; omega)
  have h0 := held_Relation (x := r.1) (k := 1) (sm_lim y0.1) (fun r hr => sm_lim (y0.2 r hr)) (by omega) (by unfold mB; omega)
  have u0 : ¬ (1 + (cs24 r.1 : Int) < 0) := by omega
  have c1 := cbs_Relation y1
  have n1 := laws_markRelation_e (x := r.2.1) (k := 1 + (cs24 r.1 : Int)) (by omega) (by unfold mB; omega)
  have h1 := held_Relation (x := r.2.1) (k := 1 + (cs24 r.1 : Int)) (sm_lim y1.1) (fun r hr => sm_lim (y1.2 r hr)) (by omega) (by unfold mB; omega)
  have u1 : ¬ (1 + (cs24 r.1 : Int) + (cs24 r.2.1 : Int) < 0) := by omega
  simp [obind, hs, hi, to_Relation s0, eq_Relation s0, m0, z0, n0, eq_Relation y0, h0, u0, n1, eq_Relation y1, h1, u1]
end Go.Proofs.Ytkmkbpphdalgoaa
