/-
 SnapshotAt: the reference and the program give the same, and how much. No conditions.
-/
import Derived.Test.YtklcofndjkjldaaGreatSmNT1
import Derived.Test.YtklcofndjkjldaaGreatFdNT1
namespace Go.Proofs.YtklcofndjkjldaaGreat
open Go.RowKit
set_option linter.unusedVariables false
set_option linter.unusedSimpArgs false
theorem N1 {d : List Tbl} (h : Iu d) : EP d = some d:=by
 unfold EP
 rw [Fu (a:=d) (h:=id) h.1 (fun k hk rec => by
  have hr:=(h.2 _ (List.getElem_mem hk)).2
  unfold H5
  simp only
  rw [AF hk,Aj hk,AO hk (At h.1)]
  simp only [cond_true,Ad,OT hr]
  rw [Ak (by simp only [List.length_map,List.length_take,List.length_singleton]; have:=h.1; omega)]
  rfl) (fun rec y => by unfold H5; simp only; rw [Az]; rfl)]
 simp [Ad]
theorem NF {d : List Tbl} (h : Iu d) : Bn d = some d:=by
 unfold Bn
 rw [Fu (a:=d) (h:=id) h.1 (fun k hk rec => by
  have hr:=(h.2 _ (List.getElem_mem hk)).2
  unfold EU
  simp only
  rw [AF hk,Aj hk,AO hk (At h.1)]
  simp only [cond_true,Ad,Uh hr]
  rw [Ak (by simp only [List.length_map,List.length_take,List.length_singleton]; have:=h.1; omega)]
  rfl) (fun rec y => by unfold EU; simp only; rw [Az]; rfl)]
 simp [Ad]
end Go.Proofs.YtklcofndjkjldaaGreat
