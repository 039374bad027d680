/-
  The law of SkewedRelation on typed functions. No conditions.
-/
import Derived.Test.YtkmkbpphdalgoaaSkPK4
namespace Go.Proofs.Ytkmkbpphdalgoaa
open Go.RowKit
set_option linter.unusedVariables false
set_option linter.unusedSimpArgs false
set_option maxRecDepth 100000
theorem law_SkewedRelation {a0 : Int} (k0 : InI a0) : laws_FnExactSkewedRelation a0 = some true := by
  unfold laws_FnExactSkewedRelation
  obtain ⟨r, hs, hi, y0⟩ := pure_SkewedRelation k0
  have c0 := cbs_Relation y0
  have n0 := laws_markRelation_e (x := r.1) (k := 1) (by omega) (by unfold mB; omega)
  have h0 := held_Relation (x := r.1) (k := 1) (sm_lim y0.1) (fun r hr => sm_lim (y0.2 r hr)) (by omega) (by unfold mB; omega)
  have u0 : ¬ (1 + (cs24 r.1 : Int) < 0) := by omega
  simp [obind, hs, hi, n0, eq_Relation y0, h0, u0]
end Go.Proofs.Ytkmkbpphdalgoaa
