/-
  The rows of a counted relation, of a view and of a watcher: the reference and the program give the same. On the printed functions; conditions: lengths.
-/
import Derived.Test.YtceghmdneadhbaaGreatVnWR1
-- pure
namespace Go.Proofs.YtceghmdneadhbaaGreat
open Go.RowKit
set_option linter.unusedVariables false
set_option linter.unusedSimpArgs false
def rowsB (c : Cnt) : Rln × Bool := cond (cntB c && !badAny c.2.2 fun _ n => decide (n < 0)) ((c.1, c.2.1), true) ((0, []), false)
theorem s_roc {c : Cnt} (h : smCnt c) : spec_RowsOfCounted c = some (rowsB c) := by
  unfold spec_RowsOfCounted rowsB badAny
  rw [s_cnt h, ob_s]
  cases cntB c with
  | false => rfl
  | true =>
    rw [Bool.not_true, cond_false, Bool.true_and, bad_loop (fun k => atB c.2.2 k fun n => decide (n < 0)) (((0, []), false) : Rln × Bool) h.2 (fun k hk rec => by
      unfold spec_RowsOfCounted_B1
      rw [lt_dec hk, cond_true, geti_at hk, ob_s, wrap_s hk (lim_max h.2), atB_lt hk]) (fun rec => by unfold spec_RowsOfCounted_B1; rw [nlt_dec]; rfl), ob_s]
    cases (List.range c.2.2.length).any fun k => atB c.2.2 k fun n => decide (n < 0) with
    | true => rfl
    | false => simp only [cond_false, s_copy (r := (c.1, c.2.1)) h.1, ob_s]; rfl
theorem i_roc {c : Cnt} (h : smCnt c) : impl_RowsOfCounted c = some (rowsB c) := by
  unfold impl_RowsOfCounted rowsB badAny
  rw [i_cnt h, ob_s]
  cases cntB c with
  | false => rfl
  | true =>
    rw [Bool.not_true, cond_false, Bool.true_and, bad_loop (fun k => atB c.2.2 k fun n => decide (n < 0)) (((0, []), false) : Rln × Bool) h.2 (fun k hk rec => by
      unfold impl_RowsOfCounted_B1
      rw [lt_dec hk, cond_true, geti_at hk, ob_s, wrap_s hk (lim_max h.2), atB_lt hk]) (fun rec => by unfold impl_RowsOfCounted_B1; rw [nlt_dec]; rfl), ob_s]
    cases (List.range c.2.2.length).any fun k => atB c.2.2 k fun n => decide (n < 0) with
    | true => rfl
    | false => simp only [cond_false, i_copyR h.1, ob_s]; rfl
theorem wr_same {n : Ntf} (h : smNtv n) {k : Int} : ∃ r, spec_WatcherRows n k = some r ∧ impl_WatcherRows n k = some r ∧ ((r = ((0, []), false)) ∨ ∃ v ∈ n.2.1, r = rowsB v.2) := by
  obtain ⟨b, e1, e2, e3⟩ := ntv_same h
  unfold spec_WatcherRows impl_WatcherRows
  rw [e1, e2, ob_s, ob_s]
  cases b with
  | false => exact ⟨_, rfl, rfl, .inl rfl⟩
  | true =>
    obtain ⟨f1, f2, f3⟩ := e3 rfl
    rw [Bool.not_true, cond_false, cond_false, s_l1In, i_within, ob_s, ob_s]
    cases hb : btw k 0 (IntKind.i64.wrap ((List.length n.2.1 : Int) - 1)) with
    | false => exact ⟨_, rfl, rfl, .inl rfl⟩
    | true =>
      unfold btw at hb
      rw [wrap_in (by omega)] at hb
      simp only [Bool.and_eq_true, decide_eq_true_eq] at hb
      obtain ⟨j, rfl⟩ := Int.eq_ofNat_of_zero_le hb.1
      have hj : j < n.2.1.length := by omega
      have hv := h.2.1.2 _ (List.getElem_mem hj)
      unfold spec_ViewRows impl_ViewRows
      rw [Bool.not_true, cond_false, cond_false, geti_at hj, ob_s, ob_s, s_roc hv.2, i_roc hv.2]
      exact ⟨_, rfl, rfl, .inr ⟨_, List.getElem_mem hj, rfl⟩⟩
end Go.Proofs.YtceghmdneadhbaaGreat
