/-
  The law of NewNotifier on typed functions. No conditions.
-/
import Derived.Test.YtkcfahfladikkaaNnN1
namespace Go.Proofs.Ytkcfahfladikkaa
open Go.RowKit
set_option linter.unusedVariables false
set_option linter.unusedSimpArgs false
set_option maxRecDepth 100000
theorem law_NewNotifier {a0 : (List ((List UInt8) × (Int × (List (List Int)))))} (k0 : ok24 a0) : laws_FnExactNewNotifier a0 = some true := by
  unfold laws_FnExactNewNotifier
  obtain ⟨v0, e0, p0⟩ := sz_Database k0 (left := 1048576) (by omega)
  rw [e0]
  rcases p0 with p0 | ⟨x0, p0, s0⟩
  · simp only [obind]; rw [decide_eq_true p0]; rfl
  simp only [obind]
  rw [decide_eq_false (by omega : ¬ v0 < 0)]
  rw [cond_false]
  obtain ⟨r, hs, hi, y0⟩ := pure_NewNotifier s0 k0
  have b0 := cts_Database a0
  have m0 := laws_markDatabase_e (x := a0) (k := 1) (by omega) (by unfold mB; omega)
  have z0 : ¬ (1 + (cs33 a0 : Int) < 0) := by omega
  have c0 := cbs_Notifier y0
  have n0 := laws_markNotifier_e (x := r.1) (k := 1) (by omega) (by unfold mB; omega)
  have h0 := hd_Notifier (x := r.1) (k := 1) y0 (by omega) (by unfold mB; omega)
  have u0 : ¬ (1 + (cs74 r.1 : Int) < 0) := by omega
  simp [obind, hs, hi, to_Database s0, eq_Database s0, m0, z0, n0, eq_Notifier y0, h0, u0]
end Go.Proofs.Ytkcfahfladikkaa
