/-
 The rows of a counted relation, of a view and of a watcher: the reference and the program give the same. On the printed functions; conditions: lengths.
-/
import Derived.Test.YtceghmdneadhbaaGreatVnWA1
-- pure
namespace Go.Proofs.YtceghmdneadhbaaGreat
open Go.RowKit
set_option linter.unusedVariables false
set_option linter.unusedSimpArgs false
def rowsB (c : Cnt) : Rln × Bool := cond (cntB c && !badAny c.2.2 fun _ n => decide (n < 0)) ((c.1,c.2.1),true) ((0,[]),false)
theorem i_roc {c : Cnt} (h : smCnt c) : impl_RowsOfCounted c = some (rowsB c) := by
 unfold impl_RowsOfCounted rowsB badAny
 rw [i_cnt h,ob_s]
 cases cntB c with
 | false => rfl
 | true =>
  rw [Bool.not_true,cond_false,Bool.true_and,bad_loop (fun k => atB c.2.2 k fun n => decide (n < 0)) (((0,[]),false) : Rln × Bool) h.2 (fun k hk rec => by
   unfold impl_RowsOfCounted_B1
   rw [lt_dec hk,cond_true,geti_at hk,ob_s,wrap_s hk (lim_max h.2),atB_lt hk]) (fun rec => by unfold impl_RowsOfCounted_B1; rw [nlt_dec]; rfl),ob_s]
  cases (List.range c.2.2.length).any fun k => atB c.2.2 k fun n => decide (n < 0) with
  | true => rfl
  | false => simp only [cond_false,i_copyR h.1,ob_s]; rfl
end Go.Proofs.YtceghmdneadhbaaGreat
