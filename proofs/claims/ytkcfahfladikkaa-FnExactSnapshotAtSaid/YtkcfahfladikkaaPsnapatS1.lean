/-
  The law of SnapshotAt on typed functions. No conditions.
-/
import Derived.Test.YtkcfahfladikkaaSnS1
namespace Go.Proofs.Ytkcfahfladikkaa
open Go.RowKit
set_option linter.unusedVariables false
set_option linter.unusedSimpArgs false
set_option maxRecDepth 100000
theorem law_SnapshotAt {a0 : Int × (List ((List ((List UInt8) × (Int × (List (List Int)))))))} {a1 : Int} (k0 : ok46 a0) (k1 : InI a1) : laws_FnExactSnapshotAt a0 a1 = some true := by
  unfold laws_FnExactSnapshotAt
  obtain ⟨v0, e0, p0⟩ := sz_History k0 (left := 1048576) (by omega)
  rw [e0]
  rcases p0 with p0 | ⟨x0, p0, s0⟩
  · simp only [obind]; rw [decide_eq_true p0]; rfl
  simp only [obind]
  rw [decide_eq_false (by omega : ¬ v0 < 0)]
  rw [cond_false]
  obtain ⟨r, hs, hi, y0⟩ := pure_SnapshotAt s0 k0 k1
  have b0 := cts_History a0
  have m0 := laws_markHistory_e (x := a0) (k := 1) (by omega) (by unfold mB; omega)
  have z0 : ¬ (1 + (cs52 a0 : Int) < 0) := by omega
  have c0 := cbs_Database y0
  have n0 := laws_markDatabase_e (x := r.1) (k := 1) (by omega) (by unfold mB; omega)
  have h0 := held_Database (x := r.1) (k := 1) (sm_lim y0.1) (fun t ht => ⟨sm_lim (y0.2 t ht).2.1, fun r hr => sm_lim ((y0.2 t ht).2.2 r hr)⟩) (by omega) (by unfold mB; omega)
  have u0 : ¬ (1 + (cs33 r.1 : Int) < 0) := by omega
  simp [obind, hs, hi, to_History s0, eq_History s0, m0, z0, n0, eq_Database y0, h0, u0]
end Go.Proofs.Ytkcfahfladikkaa
