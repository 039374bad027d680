/-
  What is drawn: queries. On the printed functions; conditions: the code's length.
-/
import Derived.Test.YtcoalfphehhadaaDrSS1
import Derived.Test.YtcoalfphehhadaaQuSS1
-- pure
namespace Go.Proofs.Ytcoalfphehhadaa
open Go.RowKit
set_option linter.unusedVariables false
set_option linter.unusedSimpArgs false
/-- what is known of the sizes of a query that holds -/
theorem qry_len {q : Qry} (h : qryB q = true) : 1 ≤ q.1 ∧ q.1 ≤ 5 ∧ 1 ≤ q.2.1.length ∧ q.2.1.length ≤ 4 ∧ (∀ a ∈ q.2.1, a.1.length ≤ 4 ∧ 1 ≤ a.2.length ∧ a.2.length ≤ 5) ∧ q.2.2.length ≤ 5 := by
  obtain ⟨h1, h2, h3, h4⟩ := qry_facts h
  unfold qryB at h
  simp only [Bool.and_eq_true, Bool.not_eq_true'] at h
  obtain ⟨g1, g2, g3, g4, -⟩ := h
  have e2 : 1 ≤ (q.2.1.length : Int) ∧ (q.2.1.length : Int) ≤ 4 := by unfold btw at g2; simpa using g2
  have e3 := set_few ⟨h1, h2⟩ g3
  refine ⟨h1, h2, by omega, h3, fun a ha => ⟨?_, (h4 a ha).1, (h4 a ha).2.1⟩, by omega⟩
  have h5 := badAny_mem g4 ha
  unfold atomBad at h5
  simp only [Bool.or_eq_false_iff, Bool.not_eq_false'] at h5
  have h6 := h5.1
  unfold nmB at h6
  simp only [Bool.and_eq_true] at h6
  have : 1 ≤ (a.1.length : Int) ∧ (a.1.length : Int) ≤ 4 := by have := h6.1; unfold btw at this; simpa using this
  omega
theorem qry_sm {q : Qry} (h : qryB q = true) : smQ q := by
  obtain ⟨h1, h2, h3, h4, h5, h6⟩ := qry_len h
  unfold smQ lim
  exact ⟨by omega, fun a ha => by have := h5 a ha; omega, by omega⟩
def knownL : List (List UInt8) := [[40, 88, 89, 90, 41, 61, 114, 40, 88, 89, 41, 44, 115, 40, 89, 90, 41, 44, 116, 40, 90, 88, 41], [40, 88, 89, 90, 85, 41, 61, 114, 40, 88, 89, 41, 44, 115, 40, 89, 90, 41, 44, 116, 40, 90, 85, 41, 44, 117, 40, 85, 88, 41], [40, 88, 89, 90, 41, 61, 114, 40, 88, 89, 41, 44, 115, 40, 89, 90, 41], [40, 88, 41, 61, 114, 40, 88, 89, 41, 44, 115, 40, 89, 90, 41, 44, 116, 40, 90, 85, 41], [40, 88, 89, 90, 41, 61, 118, 40, 88, 89, 90, 41, 44, 114, 40, 88, 89, 41], [40, 88, 89, 41, 61, 114, 40, 88, 89, 41, 44, 114, 40, 89, 88, 41], [40, 88, 89, 90, 85, 41, 61, 118, 40, 88, 89, 90, 41, 44, 115, 40, 90, 85, 41, 44, 116, 40, 85, 88, 41], [40, 88, 41, 61, 114, 40, 88, 88, 41], [40, 88, 89, 41, 61, 114, 40, 88, 90, 41, 44, 115, 40, 90, 89, 41, 44, 114, 40, 88, 85, 41, 44, 115, 40, 85, 89, 41], [40, 41, 61, 114, 40, 88, 89, 41, 44, 115, 40, 89, 88, 41], [40, 88, 89, 90, 85, 86, 41, 61, 114, 40, 88, 89, 41, 44, 115, 40, 89, 90, 41, 44, 116, 40, 90, 85, 41, 44, 117, 40, 85, 86, 41]]
section
variable {c : Cur}
/-- any query that is drawn, whether it holds or not -/
def AnyQ (q : Qry) : Prop := 0 ≤ q.1 ∧ q.1 ≤ 6 ∧ 1 ≤ q.2.1.length ∧ q.2.1.length ≤ 5 ∧ (∀ a ∈ q.2.1, a.1.length ≤ 4 ∧ a.2.length ≤ 5) ∧ q.2.2.length ≤ 6
theorem AnyQ.sm {q : Qry} (h : AnyQ q) : smQ q := by
  obtain ⟨h1, h2, h3, h4, h5, h6⟩ := h
  unfold smQ lim
  exact ⟨by omega, fun a ha => by have := h5 a ha; omega, by omega⟩
end
end Go.Proofs.Ytcoalfphehhadaa
