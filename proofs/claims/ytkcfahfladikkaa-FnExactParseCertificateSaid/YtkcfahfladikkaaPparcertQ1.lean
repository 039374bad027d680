/-
  The law of ParseCertificate on typed functions. No conditions.
-/
import Derived.Test.YtkcfahfladikkaaPgQ1
namespace Go.Proofs.Ytkcfahfladikkaa
open Go.RowKit
set_option linter.unusedVariables false
set_option linter.unusedSimpArgs false
set_option maxRecDepth 100000
theorem law_ParseCertificate {a0 : List UInt8} (k0 : List.length a0 ≤ maxLen) : laws_FnExactParseCertificate a0 = some true := by
  unfold laws_FnExactParseCertificate
  by_cases hl0 : (1048576 : Int) < (List.length a0 : Int)
  · rw [decide_eq_true hl0]; rfl
  rw [decide_eq_false hl0, cond_false]
  have hn0 : List.length a0 ≤ 1048576 := by omega
  obtain ⟨r, hs, hi, y0⟩ := pure_ParseCertificate hn0 k0
  have c0 := cbs_Certificate y0
  have n0 := laws_markCertificate_e (x := r.1) (k := 1) (by omega) (by unfold mB; omega)
  have h0 := hd_Certificate (x := r.1) (k := 1) y0 (by omega) (by unfold mB; omega)
  have u0 : ¬ (1 + (cs59 r.1 : Int) < 0) := by omega
  simp [obind, hs, hi, n0, eq_Certificate y0, h0, u0]
end Go.Proofs.Ytkcfahfladikkaa
