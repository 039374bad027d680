/-
  When a query fits a database, when an order is valid, copies of queries: the reference and the program agree. On the printed functions; conditions: lengths.
-/
import Derived.Test.YtcoalfphehhadaaQuSS1
-- pure
namespace Go.Proofs.Ytcoalfphehhadaa
open Go.RowKit
set_option linter.unusedVariables false
set_option linter.unusedSimpArgs false
def atomFit (d : List Tbl) (a : Atm) : Bool := (lookB d a.1).2 && ((lookB d a.1).1.1 == (a.2.length : Int))
def qforB (d : List Tbl) (q : Qry) : Bool := qryB q && (dbB d && !badAny q.2.1 fun _ a => !atomFit d a)
def ordB (q : Qry) (o : List Int) : Bool := qryB q && (((o.length : Int) == q.1) && !badAny o (setBad q.1 o))
theorem qry_n {q : Qry} (h : qryB q = true) : 1 ≤ q.1 ∧ q.1 ≤ 5 := by
  unfold qryB btw at h
  simp only [Bool.and_eq_true, decide_eq_true_eq] at h
  exact h.1
end Go.Proofs.Ytcoalfphehhadaa
