/-
 SnapshotAt: the reference and the program give the same, and how much. No conditions.
-/
import Derived.Test.YtpcbnmcfplioeaaGreatSmNC1
import Derived.Test.YtpcbnmcfplioeaaGreatFdNC1
namespace Go.Proofs.YtpcbnmcfplioeaaGreat
open Go.RowKit
set_option linter.unusedVariables false
set_option linter.unusedSimpArgs false
theorem Sn {d : List Tbl} (h : KU d) : FJ d = some d:=by
 unfold FJ
 rw [Gk (a:=d) (h:=id) h.1 (fun k hk rec => by
  have hr:=(h.2 _ (List.getElem_mem hk)).2
  unfold Is
  simp only
  rw [AL hk,Am hk,AS hk (AA h.1)]
  simp only [cond_true,Ad,TD hr]
  rw [Ap (by simp only [List.length_map,List.length_take,List.length_singleton]; have:=h.1; omega)]
  rfl) (fun rec y => by unfold Is; simp only; rw [AG]; rfl)]
 simp [Ad]
theorem P4 {d : List Tbl} (h : KU d) : Bn d = some d:=by
 unfold Bn
 rw [Gk (a:=d) (h:=id) h.1 (fun k hk rec => by
  have hr:=(h.2 _ (List.getElem_mem hk)).2
  unfold E4
  simp only
  rw [AL hk,Am hk,AS hk (AA h.1)]
  simp only [cond_true,Ad,XE hr]
  rw [Ap (by simp only [List.length_map,List.length_take,List.length_singleton]; have:=h.1; omega)]
  rfl) (fun rec y => by unfold E4; simp only; rw [AG]; rfl)]
 simp [Ad]
end Go.Proofs.YtpcbnmcfplioeaaGreat
