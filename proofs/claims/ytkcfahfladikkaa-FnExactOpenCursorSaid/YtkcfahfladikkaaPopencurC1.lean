/-
  The law of OpenCursor on typed functions. No conditions.
-/
import Derived.Test.YtkcfahfladikkaaOcC1
namespace Go.Proofs.Ytkcfahfladikkaa
open Go.RowKit
set_option linter.unusedVariables false
set_option linter.unusedSimpArgs false
set_option maxRecDepth 100000
theorem law_OpenCursor {a0 : Y45} {a1 : Y78} {a2 : List Int} (k0 : ok46 a0) (k1 : ok79 a1) (k2 : ok25 a2) : laws_FnExactOpenCursor a0 a1 a2 = some true := by
  unfold laws_FnExactOpenCursor
  by_cases hl2 : (1048576 : Int) < (List.length a2 : Int)
  · rw [decide_eq_true hl2]; rfl
  rw [decide_eq_false hl2, cond_false]
  have hn2 : List.length a2 ≤ 1048576 := by omega
  obtain ⟨v0, e0, p0⟩ := sz_History k0 (left := 1048576) (by omega)
  rw [e0]
  rcases p0 with p0 | ⟨x0, p0, s0⟩
  · simp only [obind]; rw [decide_eq_true p0]; rfl
  simp only [obind]
  rw [decide_eq_false (by omega : ¬ v0 < 0)]
  obtain ⟨v1, e1, p1⟩ := sz_Query k1 (left := v0) (by omega)
  rw [e1]
  rcases p1 with p1 | ⟨x1, p1, s1⟩
  · simp only [obind]; rw [decide_eq_true p1]; rfl
  simp only [obind, cond_false]
  rw [decide_eq_false (by omega : ¬ v1 < 0)]
  rw [cond_false]
  obtain ⟨r, hs, hi, y0⟩ := pure_OpenCursor s0 s1 (show sm_IntS a2 from hn2) k0 k1 k2
  have b0 := cts_History a0
  have m0 := laws_markHistory_e (x := a0) (k := 1) (by omega) (by unfold mB; omega)
  have b1 := cts_Query a1
  have m1 := laws_markQuery_e (x := a1) (k := 1 + (cs52 a0 : Int)) (by omega) (by unfold mB; omega)
  have b2 := ct_IntS a2
  have t2 : tz_IntS a2 ≤ 1048576 := hn2
  have m2 := laws_markIntS_e (x := a2) (k := 1 + (cs52 a0 : Int) + (cs92 a1 : Int)) (by omega) (by unfold mB; omega)
  have z0 : ¬ (1 + (cs52 a0 : Int) + (cs92 a1 : Int) + (ce25 a2 : Int) < 0) := by omega
  have c0 := cbs_Cursor y0
  have n0 := laws_markCursor_e (x := r.1) (k := 1) (by omega) (by unfold mB; omega)
  have h0 := hd_Cursor (x := r.1) (k := 1) y0 (by omega) (by unfold mB; omega)
  have u0 : ¬ (1 + (cs108 r.1 : Int) < 0) := by omega
  simp [obind, hs, hi, to_History s0, eq_History s0, m0, to_Query s1, eq_Query s1, m1, to_IntS (show sm_IntS a2 from hn2), eq_IntS (show sm_IntS a2 from hn2), m2, z0, n0, eq_Cursor y0, h0, u0]
end Go.Proofs.Ytkcfahfladikkaa
