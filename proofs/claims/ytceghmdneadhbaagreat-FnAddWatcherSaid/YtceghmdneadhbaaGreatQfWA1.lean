/-
 When a query fits a database, when an order is valid, copies of queries: the reference and the program agree. On the printed functions; conditions: lengths.
-/
import Derived.Test.YtceghmdneadhbaaGreatQuWA1
-- pure
namespace Go.Proofs.YtceghmdneadhbaaGreat
open Go.RowKit
set_option linter.unusedVariables false
set_option linter.unusedSimpArgs false
def atomFit (d : List Tbl) (a : Atm) : Bool := (lookB d a.1).2 && ((lookB d a.1).1.1 == (a.2.length : Int))
def qforB (d : List Tbl) (q : Qry) : Bool := qryB q && (dbB d && !badAny q.2.1 fun _ a => !atomFit d a)
theorem s_qfor {d : List Tbl} {q : Qry} (h : smDb d) (hq : smQ q) : spec_IsQueryFor d q = some (qforB d q) := by
 unfold spec_IsQueryFor qforB badAny
 rw [all_loop (fun k => atB q.2.1 k fun a => !atomFit d a) hq.1 (fun k hk rec => by
  unfold spec_IsQueryFor_B1
  rw [lt_dec hk,geti_at hk,wrap_s hk (lim_max hq.1),atB_lt hk]
  simp only [cond_true,obind,s_look h,atomFit]
  cases (lookB d q.2.1[k].1).2 with
  | false => rfl
  | true =>
   simp only [Bool.not_true,cond_false,Bool.true_and,bne]) (fun rec => by unfold spec_IsQueryFor_B1; rw [nlt_dec]; rfl)]
 simp only [s_query hq,s_db h,obind,spec_IsQueryFor_J2]
 cases (List.range q.2.1.length).any fun k => atB q.2.1 k fun a => !atomFit d a <;> cases qryB q <;> cases dbB d <;> rfl
theorem i_qfor {d : List Tbl} {q : Qry} (h : smDb d) (hq : smQ q) : impl_IsQueryFor d q = some (qforB d q) := by
 unfold impl_IsQueryFor qforB badAny
 simp only [i_query hq,i_db h,obind]
 rw [all_loop (fun k => atB q.2.1 k fun a => !atomFit d a) hq.1 (fun k hk rec => by
  unfold impl_IsQueryFor_B1
  rw [lt_dec hk,geti_at hk,wrap_s hk (lim_max hq.1),atB_lt hk]
  simp only [cond_true,obind,i_look h,atomFit]
  cases (lookB d q.2.1[k].1).2 with
  | false => rfl
  | true =>
   simp only [Bool.not_true,cond_false,Bool.true_and,bne]) (fun rec => by unfold impl_IsQueryFor_B1; rw [nlt_dec]; rfl)]
 cases (List.range q.2.1.length).any fun k => atB q.2.1 k fun a => !atomFit d a <;> cases qryB q <;> cases dbB d <;> rfl
theorem s_copyQ {q : Qry} (h : smQ q) : spec_l7Copy q = some q := by
 unfold spec_l7Copy
 rw [chk_pos (by simpa using h.2.2),map_loop (a := q.2.1) (h := id) h.1 (fun k hk rec => by
  have hr := (h.2.1 _ (List.getElem_mem hk)).2
  unfold spec_l7Copy_B1
  simp only
  rw [lt_dec hk,geti_at hk,wrap_s hk (lim_max h.1)]
  simp only [cond_true,obind]
  rw [chk_pos (by simpa using hr),chk_pos (by simp only [List.length_map,List.length_take,List.length_singleton]; have := h.1; omega)]
  rfl) (fun rec y => by unfold spec_l7Copy_B1; simp only; rw [nlt_dec]; rfl)]
 simp [obind]
theorem i_copyQ {q : Qry} (h : smQ q) : impl_copyQuery q = some q := by
 unfold impl_copyQuery
 rw [i_copyI h.2.2,map_loop (a := q.2.1) (h := id) h.1 (fun k hk rec => by
  have hr := (h.2.1 _ (List.getElem_mem hk)).2
  unfold impl_copyQuery_B1
  simp only
  rw [lt_dec hk,geti_at hk,wrap_s hk (lim_max h.1)]
  simp only [cond_true,obind,i_copyI hr]
  rw [chk_pos (by simp only [List.length_map,List.length_take,List.length_singleton]; have := h.1; omega)]
  rfl) (fun rec y => by unfold impl_copyQuery_B1; simp only; rw [nlt_dec]; rfl)]
 simp [obind]
end Go.Proofs.YtceghmdneadhbaaGreat
