/-
  The law of WatcherRows on typed functions. No conditions.
-/
import Derived.Test.YtceghmdneadhbaaGreatWrPWR1
namespace Go.Proofs.YtceghmdneadhbaaGreat
open Go.RowKit
set_option linter.unusedVariables false
set_option linter.unusedSimpArgs false
set_option maxRecDepth 100000
theorem law_WatcherRows {a0 : Y27} {a1 : Int} (k0 : ok28 a0) (k1 : InI a1) : laws_FnExactWatcherRows a0 a1 = some true := by
  unfold laws_FnExactWatcherRows
  obtain ⟨v0, e0, p0⟩ := sz_Notifier k0 (left := 1048576) (by omega)
  rw [e0]
  rcases p0 with p0 | ⟨x0, p0, s0⟩
  · simp only [obind]; rw [decide_eq_true p0]; rfl
  simp only [obind]
  rw [decide_eq_false (by omega : ¬ v0 < 0)]
  rw [cond_false]
  obtain ⟨r, hs, hi, y0⟩ := pure_WatcherRows s0 k0 k1
  have b0 := cts_Notifier a0
  have m0 := laws_markNotifier_e (x := a0) (k := 1) (by omega) (by unfold mB; omega)
  have z0 : ¬ (1 + (cs37 a0 : Int) < 0) := by omega
  have c0 := cbs_Relation y0
  have n0 := laws_markRelation_e (x := r.1) (k := 1) (by omega) (by unfold mB; omega)
  have h0 := hd_Relation (x := r.1) (k := 1) y0 (by omega) (by unfold mB; omega)
  have u0 : ¬ (1 + (cs43 r.1 : Int) < 0) := by omega
  simp [obind, hs, hi, to_Notifier s0, eq_Notifier s0, m0, z0, n0, eq_Relation y0, h0, u0]
end Go.Proofs.YtceghmdneadhbaaGreat
