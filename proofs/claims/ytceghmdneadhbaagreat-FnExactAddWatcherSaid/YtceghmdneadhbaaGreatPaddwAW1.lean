/-
  The law of AddWatcher on typed functions. No conditions.
-/
import Derived.Test.YtceghmdneadhbaaGreatAwPAW1
namespace Go.Proofs.YtceghmdneadhbaaGreat
open Go.RowKit
set_option linter.unusedVariables false
set_option linter.unusedSimpArgs false
set_option maxRecDepth 100000
theorem law_AddWatcher {a0 : Y27} {a1 : Y63} (k0 : ok28 a0) (k1 : ok64 a1) : laws_FnExactAddWatcher a0 a1 = some true := by
  unfold laws_FnExactAddWatcher
  obtain ⟨v0, e0, p0⟩ := sz_Notifier k0 (left := 1048576) (by omega)
  rw [e0]
  rcases p0 with p0 | ⟨x0, p0, s0⟩
  · simp only [obind]; rw [decide_eq_true p0]; rfl
  simp only [obind]
  rw [decide_eq_false (by omega : ¬ v0 < 0)]
  obtain ⟨v1, e1, p1⟩ := sz_Query k1 (left := v0) (by omega)
  rw [e1]
  rcases p1 with p1 | ⟨x1, p1, s1⟩
  · simp only [obind]; rw [decide_eq_true p1]; rfl
  simp only [obind, cond_false]
  rw [decide_eq_false (by omega : ¬ v1 < 0)]
  rw [cond_false]
  obtain ⟨r, hs, hi, y0, tr⟩ := pure_AddWatcher s0 s1 k0 k1
  have b0 := cts_Notifier a0
  have m0 := laws_markNotifier_e (x := a0) (k := 1) (by omega) (by unfold mB; omega)
  have b1 := cts_Query a1
  have m1 := laws_markQuery_e (x := a1) (k := 1 + (cs37 a0 : Int)) (by omega) (by unfold mB; omega)
  have z0 : ¬ (1 + (cs37 a0 : Int) + (cs55 a1 : Int) < 0) := by omega
  have c0 := cts_Notifier r.1
  have n0 := laws_markNotifier_e (x := r.1) (k := 1) (by omega) (by unfold mB; omega)
  have h0 := hd_Notifier (x := r.1) (k := 1) y0 (by omega) (by unfold mB; omega)
  have u0 : ¬ (1 + (cs37 r.1 : Int) < 0) := by omega
  simp [obind, hs, hi, to_Notifier s0, eq_Notifier s0, m0, to_Query s1, eq_Query s1, m1, z0, n0, eq_Notifier y0, h0, u0]
end Go.Proofs.YtceghmdneadhbaaGreat
