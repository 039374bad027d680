/-
  The law of DropUnusedSnapshots on typed functions. No conditions.
-/
import Derived.Test.YtcoalfphehhadaaDuDU1
namespace Go.Proofs.Ytcoalfphehhadaa
open Go.RowKit
set_option linter.unusedVariables false
set_option linter.unusedSimpArgs false
set_option maxRecDepth 100000
theorem law_DropUnusedSnapshots {a0 : Y46} {a1 : List Y97} (k0 : ok47 a0) (k1 : ok48 a1) : laws_FnExactDropUnusedSnapshots a0 a1 = some true := by
  unfold laws_FnExactDropUnusedSnapshots
  obtain ⟨v0, e0, p0⟩ := sz_History k0 (left := 1048576) (by omega)
  rw [e0]
  rcases p0 with p0 | ⟨x0, p0, s0⟩
  · simp only [obind]; rw [decide_eq_true p0]; rfl
  simp only [obind]
  rw [decide_eq_false (by omega : ¬ v0 < 0)]
  obtain ⟨v1, e1, p1⟩ := sz_CursorS k1 (left := v0) (by omega)
  rw [e1]
  rcases p1 with p1 | ⟨x1, p1, s1⟩
  · simp only [obind]; rw [decide_eq_true p1]; rfl
  simp only [obind, cond_false]
  rw [decide_eq_false (by omega : ¬ v1 < 0)]
  rw [cond_false]
  obtain ⟨r, hs, hi, y0, tr⟩ := pure_DropUnusedSnapshots s0 s1 k0 k1
  have b0 := cts_History a0
  have m0 := laws_markHistory_e (x := a0) (k := 1) (by omega) (by unfold mB; omega)
  have b1 := ct_CursorS a1
  have m1 := laws_markCursorS_e (x := a1) (k := 1 + (cs26 a0 : Int)) (by omega) (by unfold mB; omega)
  have z0 : ¬ (1 + (cs26 a0 : Int) + (ce53 a1 : Int) < 0) := by omega
  have c0 := cts_History r
  have n0 := laws_markHistory_e (x := r) (k := 1) (by omega) (by unfold mB; omega)
  have h0 := hd_History (x := r) (k := 1) y0 (by omega) (by unfold mB; omega)
  have u0 : ¬ (1 + (cs26 r : Int) < 0) := by omega
  simp [obind, hs, hi, to_History s0, eq_History s0, m0, to_CursorS s1, eq_CursorS s1, m1, z0, n0, eq_History y0, h0, u0]
end Go.Proofs.Ytcoalfphehhadaa
