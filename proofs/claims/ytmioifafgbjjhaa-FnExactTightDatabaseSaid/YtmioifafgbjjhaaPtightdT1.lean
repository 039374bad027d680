/-
  The law of TightDatabase on typed functions. No conditions.
-/
import Derived.Test.YtmioifafgbjjhaaTdPT1
namespace Go.Proofs.Ytmioifafgbjjhaa
open Go.RowKit
set_option linter.unusedVariables false
set_option linter.unusedSimpArgs false
set_option maxRecDepth 100000
theorem law_TightDatabase {a0 : Y52} {a1 : List Int} {a2 : Int} (k0 : ok53 a0) (k1 : ok31 a1) (k2 : InI a2) : laws_FnExactTightDatabase a0 a1 a2 = some true := by
  unfold laws_FnExactTightDatabase
  by_cases hl1 : (1048576 : Int) < (List.length a1 : Int)
  · rw [decide_eq_true hl1]; rfl
  rw [decide_eq_false hl1, cond_false]
  have hn1 : List.length a1 ≤ 1048576 := by omega
  obtain ⟨v0, e0, p0⟩ := sz_Query k0 (left := 1048576) (by omega)
  rw [e0]
  rcases p0 with p0 | ⟨x0, p0, s0⟩
  · simp only [obind]; rw [decide_eq_true p0]; rfl
  simp only [obind]
  rw [decide_eq_false (by omega : ¬ v0 < 0)]
  rw [cond_false]
  obtain ⟨r, hs, hi, y0⟩ := pure_TightDatabase s0 (show sm_IntS a1 from hn1) k0 k1 k2
  have b0 := cts_Query a0
  have m0 := laws_markQuery_e (x := a0) (k := 1) (by omega) (by unfold mB; omega)
  have b1 := ct_IntS a1
  have t1 : tz_IntS a1 ≤ 1048576 := hn1
  have m1 := laws_markIntS_e (x := a1) (k := 1 + (cs59 a0 : Int)) (by omega) (by unfold mB; omega)
  have z0 : ¬ (1 + (cs59 a0 : Int) + (ce31 a1 : Int) < 0) := by omega
  have c0 := cbs_Database y0
  have n0 := laws_markDatabase_e (x := r.1) (k := 1) (by omega) (by unfold mB; omega)
  have h0 := hd_Database (x := r.1) (k := 1) y0 (by omega) (by unfold mB; omega)
  have u0 : ¬ (1 + (cs42 r.1 : Int) < 0) := by omega
  simp [obind, hs, hi, to_Query s0, eq_Query s0, m0, to_IntS (show sm_IntS a1 from hn1), eq_IntS (show sm_IntS a1 from hn1), m1, z0, n0, eq_Database y0, h0, u0]
end Go.Proofs.Ytmioifafgbjjhaa
