/-
  AppendSnapshot: the reference and the program give the same, and how much. No conditions.
-/
import Derived.Test.YtlknpohjnpnodaaGreatApAC1
import Derived.Test.YtlknpohjnpnodaaGreatSnAC1
import Derived.Test.YtlknpohjnpnodaaGreatSmAC1
-- pure
namespace Go.Proofs.YtlknpohjnpnodaaGreat
open Go.RowKit
set_option linter.unusedVariables false
set_option linter.unusedSimpArgs false
abbrev Hst := Int × List (List Tbl)
theorem hist_facts {h : Hst} (hv : histB h = true) : 1 ≤ h.2.length ∧ h.2.length ≤ 6 ∧ ∀ d ∈ h.2, dbB d = true := by
  unfold histB btw at hv
  simp only [Bool.and_eq_true, Bool.not_eq_true', decide_eq_true_eq] at hv
  refine ⟨by omega, by omega, fun d hd => ?_⟩
  obtain ⟨k, hk, rfl⟩ := List.mem_iff_getElem.1 hd
  have := badAny_f hv.1 hk
  simpa using this
theorem sm_histA {x : Int × List (List Tbl)} (h : sm_History x) : smHist x := ⟨sm_lim h.1, fun d hd => sm_db (h.2 d hd)⟩
end Go.Proofs.YtlknpohjnpnodaaGreat
