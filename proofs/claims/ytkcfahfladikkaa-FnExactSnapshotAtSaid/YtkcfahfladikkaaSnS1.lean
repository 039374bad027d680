/-
  SnapshotAt: the reference and the program give the same, and how much. No conditions.
-/
import Derived.Test.YtkcfahfladikkaaSmS1
import Derived.Test.YtkcfahfladikkaaFdS1
-- pure
namespace Go.Proofs.Ytkcfahfladikkaa
open Go.RowKit
set_option linter.unusedVariables false
set_option linter.unusedSimpArgs false
theorem sm_hist {x : Int × List (List Tbl)} (h : sm_History x) : smHist x := ⟨sm_lim h.1, fun d hd => sm_db (h.2 d hd)⟩
theorem s_copyD {d : List Tbl} (h : smDb d) : spec_l6Copy d = some d := by
  unfold spec_l6Copy
  rw [map_loop (a := d) (h := id) h.1 (fun k hk rec => by
    have hr := (h.2 _ (List.getElem_mem hk)).2
    unfold spec_l6Copy_B1
    simp only
    rw [lt_dec hk, geti_at hk, wrap_s hk (lim_max h.1)]
    simp only [cond_true, obind, s_copy hr]
    rw [chk_pos (by simp only [List.length_map, List.length_take, List.length_singleton]; have := h.1; omega)]
    rfl) (fun rec y => by unfold spec_l6Copy_B1; simp only; rw [nlt_dec]; rfl)]
  simp [obind]
theorem i_copyD {d : List Tbl} (h : smDb d) : impl_copyDatabase d = some d := by
  unfold impl_copyDatabase
  rw [map_loop (a := d) (h := id) h.1 (fun k hk rec => by
    have hr := (h.2 _ (List.getElem_mem hk)).2
    unfold impl_copyDatabase_B1
    simp only
    rw [lt_dec hk, geti_at hk, wrap_s hk (lim_max h.1)]
    simp only [cond_true, obind, i_copy hr]
    rw [chk_pos (by simp only [List.length_map, List.length_take, List.length_singleton]; have := h.1; omega)]
    rfl) (fun rec y => by unfold impl_copyDatabase_B1; simp only; rw [nlt_dec]; rfl)]
  simp [obind]
theorem sm_noDb : sm_Database [] := ⟨by simp, fun x hx => by cases hx⟩
theorem pure_SnapshotAt {x : Int × List (List Tbl)} {n : Int} (s0 : sm_History x) (k0 : ok46 x) (k1 : InI n) : ∃ r, spec_SnapshotAt x n = some r ∧ impl_SnapshotAt x n = some r ∧ sm_Database r.1 := by
  have h := sm_hist s0
  unfold spec_SnapshotAt impl_SnapshotAt
  simp only [s_hist h, i_hist h, obind, s_l1In, i_within]
  cases hb : histB x with
  | false => exact ⟨_, rfl, rfl, sm_noDb⟩
  | true =>
    simp only [Bool.not_true, cond_false]
    cases hc : btw n x.1 (IntKind.i64.wrap ((IntKind.i64.wrap (x.1 + (List.length x.2 : Int))) - 1)) with
    | false => exact ⟨_, rfl, rfl, sm_noDb⟩
    | true =>
      unfold histB at hb
      simp only [Bool.and_eq_true] at hb
      obtain ⟨_, hl, ha⟩ := hb
      unfold btw at hl ha hc
      simp only [Bool.and_eq_true, decide_eq_true_eq] at hl ha hc
      rw [wrap_in (n := 99 - (x.2.length : Int)) (by omega), wrap_in (by omega)] at ha
      rw [wrap_in (n := x.1 + (x.2.length : Int)) (by omega), wrap_in (by omega)] at hc
      have hj : (n - x.1).toNat < x.2.length := by omega
      have hg : geti x.2 (IntKind.i64.wrap (n - x.1)) = some x.2[(n - x.1).toNat] := by
        have e : IntKind.i64.wrap (n - x.1) = (((n - x.1).toNat : Nat) : Int) := by rw [wrap_in (by omega)]; omega
        rw [e, geti_at hj]
      have hm := List.getElem_mem hj
      simp only [Bool.not_true, cond_false, hg, s_copyD (h.2 _ hm), i_copyD (h.2 _ hm)]
      exact ⟨_, rfl, rfl, s0.2 _ hm⟩
end Go.Proofs.Ytkcfahfladikkaa
