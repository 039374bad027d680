/-
  The law of IsValidNotifier on typed functions. No conditions.
-/
import Derived.Test.YtceghmdneadhbaaGreatVnPVN1
namespace Go.Proofs.YtceghmdneadhbaaGreat
open Go.RowKit
set_option linter.unusedVariables false
set_option linter.unusedSimpArgs false
set_option maxRecDepth 100000
theorem law_IsValidNotifier {a0 : Y27} (k0 : ok28 a0) : laws_FnExactIsValidNotifier a0 = some true := by
  unfold laws_FnExactIsValidNotifier
  obtain ⟨v0, e0, p0⟩ := sz_Notifier k0 (left := 1048576) (by omega)
  rw [e0]
  rcases p0 with p0 | ⟨x0, p0, s0⟩
  · simp only [obind]; rw [decide_eq_true p0]; rfl
  simp only [obind]
  rw [decide_eq_false (by omega : ¬ v0 < 0)]
  rw [cond_false]
  obtain ⟨r, hs, hi⟩ := pure_IsValidNotifier s0 k0
  simp [obind, hs, hi, to_Notifier s0, eq_Notifier s0]
end Go.Proofs.YtceghmdneadhbaaGreat
