/-
  When a query fits a database, when an order is valid, copies of queries: the reference and the program agree. On the printed functions; conditions: lengths.
-/
import Derived.Test.YtkclaipnejgloaaDoorQuIC1
-- pure
namespace Go.Proofs.YtkclaipnejgloaaDoor
open Go.RowKit
set_option linter.unusedVariables false
set_option linter.unusedSimpArgs false
def atomFit (d : List Tbl) (a : Atm) : Bool := (lookB d a.1).2 && ((lookB d a.1).1.1 == (a.2.length : Int))
def qforB (d : List Tbl) (q : Qry) : Bool := qryB q && (dbB d && !badAny q.2.1 fun _ a => !atomFit d a)
theorem s_perm {l : List Int} (h : l.length ≤ lim) : spec_IsPermutation l = some (!badAny l (setBad (l.length : Int) l) && decide ((l.length : Int) ≤ 5)) := by
  unfold spec_IsPermutation badAny
  rw [all_loop (fun k => atB l k (setBad (l.length : Int) l k)) h (fun k hk rec => by
    unfold spec_IsPermutation_B1
    rw [lt_dec hk, geti_at hk, wrap_s hk (lim_max h), atB_lt hk]
    simp only [cond_true, obind, s_l1In]
    rw [chk_pos (by omega), sub_take]
    simp only [s_find (l := l.take k) (by rw [List.length_take]; omega), place_has, setBad]
    cases btw l[k] 0 (IntKind.i64.wrap ((l.length : Int) - 1)) <;> rfl) (fun rec => by unfold spec_IsPermutation_B1; rw [nlt_dec]; rfl)]
  cases (List.range l.length).any fun k => atB l k (setBad (l.length : Int) l k) <;> simp [obind]
def ordB (q : Qry) (o : List Int) : Bool := qryB q && (((o.length : Int) == q.1) && !badAny o (setBad q.1 o))
theorem qry_n {q : Qry} (h : qryB q = true) : 1 ≤ q.1 ∧ q.1 ≤ 5 := by
  unfold qryB btw at h
  simp only [Bool.and_eq_true, decide_eq_true_eq] at h
  exact h.1
theorem s_order {q : Qry} {o : List Int} (hq : smQ q) (ho : o.length ≤ lim) : spec_IsValidOrder q o = some (ordB q o) := by
  unfold spec_IsValidOrder spec_IsValidOrder_J1 ordB
  simp only [s_query hq, s_perm ho, obind]
  cases hv : qryB q with
  | false => rfl
  | true =>
    have hn := qry_n hv
    cases hl : ((o.length : Int) == q.1) with
    | false => rfl
    | true =>
      have hl : (o.length : Int) = q.1 := by simpa using hl
      rw [hl, decide_eq_true hn.2]
      simp
theorem i_order {q : Qry} {o : List Int} (hq : smQ q) (ho : o.length ≤ lim) : impl_IsValidOrder q o = some (ordB q o) := by
  unfold impl_IsValidOrder impl_IsValidOrder_J1 ordB
  simp only [i_query hq, i_set ho, obind]
  cases qryB q with
  | false => rfl
  | true => cases ((o.length : Int) == q.1) <;> rfl
end Go.Proofs.YtkclaipnejgloaaDoor
