/-
 SnapshotAt: the reference and the program give the same, and how much. No conditions.
-/
import Derived.Test.YtceghmdneadhbaaGreatSmWA1
import Derived.Test.YtceghmdneadhbaaGreatFdWA1
-- pure
namespace Go.Proofs.YtceghmdneadhbaaGreat
open Go.RowKit
set_option linter.unusedVariables false
set_option linter.unusedSimpArgs false
theorem s_copyD {d : List Tbl} (h : smDb d) : spec_l6Copy d = some d := by
 unfold spec_l6Copy
 rw [map_loop (a := d) (h := id) h.1 (fun k hk rec => by
  have hr := (h.2 _ (List.getElem_mem hk)).2
  unfold spec_l6Copy_B1
  simp only
  rw [lt_dec hk,geti_at hk,wrap_s hk (lim_max h.1)]
  simp only [cond_true,obind,s_copy hr]
  rw [chk_pos (by simp only [List.length_map,List.length_take,List.length_singleton]; have := h.1; omega)]
  rfl) (fun rec y => by unfold spec_l6Copy_B1; simp only; rw [nlt_dec]; rfl)]
 simp [obind]
theorem i_copyD {d : List Tbl} (h : smDb d) : impl_copyDatabase d = some d := by
 unfold impl_copyDatabase
 rw [map_loop (a := d) (h := id) h.1 (fun k hk rec => by
  have hr := (h.2 _ (List.getElem_mem hk)).2
  unfold impl_copyDatabase_B1
  simp only
  rw [lt_dec hk,geti_at hk,wrap_s hk (lim_max h.1)]
  simp only [cond_true,obind,i_copy hr]
  rw [chk_pos (by simp only [List.length_map,List.length_take,List.length_singleton]; have := h.1; omega)]
  rfl) (fun rec y => by unfold impl_copyDatabase_B1; simp only; rw [nlt_dec]; rfl)]
 simp [obind]
end Go.Proofs.YtceghmdneadhbaaGreat
