/-
 SnapshotAt: the reference and the program give the same, and how much. No conditions.
-/
import Derived.Test.YtlknpohjnpnodaaGreatSmSC1
import Derived.Test.YtlknpohjnpnodaaGreatFdSC1
namespace Go.Proofs.YtlknpohjnpnodaaGreat
open Go.RowKit
set_option linter.unusedVariables false
set_option linter.unusedSimpArgs false
theorem Oh {d : List Tbl} (h : Kb d) : Ff d = some d := by
 unfold Ff
 rw [Gj (a := d) (h := id) h.1 (fun k hk rec => by
  have hr := (h.2 _ (List.getElem_mem hk)).2
  unfold H5
  simp only
  rw [AC hk, Ak hk, AH hk (Ax h.1)]
  simp only [cond_true, Ad, ST hr]
  rw [Am (by simp only [List.length_map, List.length_take, List.length_singleton]; have := h.1; omega)]
  rfl) (fun rec y => by unfold H5; simp only; rw [Ay]; rfl)]
 simp [Ad]
theorem Mw {d : List Tbl} (h : Kb d) : Bi d = some d := by
 unfold Bi
 rw [Gj (a := d) (h := id) h.1 (fun k hk rec => by
  have hr := (h.2 _ (List.getElem_mem hk)).2
  unfold Fj
  simp only
  rw [AC hk, Ak hk, AH hk (Ax h.1)]
  simp only [cond_true, Ad, UD hr]
  rw [Am (by simp only [List.length_map, List.length_take, List.length_singleton]; have := h.1; omega)]
  rfl) (fun rec y => by unfold Fj; simp only; rw [Ay]; rfl)]
 simp [Ad]
end Go.Proofs.YtlknpohjnpnodaaGreat
