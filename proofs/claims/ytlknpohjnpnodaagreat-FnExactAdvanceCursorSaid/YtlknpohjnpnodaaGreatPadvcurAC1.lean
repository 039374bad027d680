/-
  The law of AdvanceCursor on typed functions. No conditions.
-/
import Derived.Test.YtlknpohjnpnodaaGreatAcPAC1
namespace Go.Proofs.YtlknpohjnpnodaaGreat
open Go.RowKit
set_option linter.unusedVariables false
set_option linter.unusedSimpArgs false
set_option maxRecDepth 100000
theorem law_AdvanceCursor {a0 : Y53} {a1 : Y58} (k0 : ok54 a0) (k1 : ok59 a1) : laws_FnExactAdvanceCursor a0 a1 = some true := by
  unfold laws_FnExactAdvanceCursor
  obtain ⟨v0, e0, p0⟩ := sz_History k0 (left := 1048576) (by omega)
  rw [e0]
  rcases p0 with p0 | ⟨x0, p0, s0⟩
  · simp only [obind]; rw [decide_eq_true p0]; rfl
  simp only [obind]
  rw [decide_eq_false (by omega : ¬ v0 < 0)]
  obtain ⟨v1, e1, p1⟩ := sz_Cursor k1 (left := v0) (by omega)
  rw [e1]
  rcases p1 with p1 | ⟨x1, p1, s1⟩
  · simp only [obind]; rw [decide_eq_true p1]; rfl
  simp only [obind, cond_false]
  rw [decide_eq_false (by omega : ¬ v1 < 0)]
  rw [cond_false]
  obtain ⟨r, hs, hi, y0, y1⟩ := pure_AdvanceCursor s0 s1 k0 k1
  have b0 := cts_History a0
  have m0 := laws_markHistory_e (x := a0) (k := 1) (by omega) (by unfold mB; omega)
  have b1 := cts_Cursor a1
  have m1 := laws_markCursor_e (x := a1) (k := 1 + (cs26 a0 : Int)) (by omega) (by unfold mB; omega)
  have z0 : ¬ (1 + (cs26 a0 : Int) + (cs32 a1 : Int) < 0) := by omega
  have c0 := cbs_Cursor y0
  have n0 := laws_markCursor_e (x := r.1) (k := 1) (by omega) (by unfold mB; omega)
  have h0 := hd_Cursor (x := r.1) (k := 1) y0 (by omega) (by unfold mB; omega)
  have u0 : ¬ (1 + (cs32 r.1 : Int) < 0) := by omega
  have c1 := cb_IntS y1
  have n1 := laws_markIntS_e (x := r.2.1) (k := 1 + (cs32 r.1 : Int)) (by omega) (by unfold mB; omega)
  have h1 := hd_IntS (x := r.2.1) (k := 1 + (cs32 r.1 : Int)) y1 (by omega) (by unfold mB; omega)
  have u1 : ¬ (1 + (cs32 r.1 : Int) + (ce27 r.2.1 : Int) < 0) := by omega
  simp [obind, hs, hi, to_History s0, eq_History s0, m0, to_Cursor s1, eq_Cursor s1, m1, z0, n0, eq_Cursor y0, h0, u0, n1, eq_IntS y1, h1, u1]
end Go.Proofs.YtlknpohjnpnodaaGreat
