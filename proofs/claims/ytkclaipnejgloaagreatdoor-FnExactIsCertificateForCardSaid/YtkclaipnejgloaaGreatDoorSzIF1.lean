/-
 The sizes of a query's atoms: the reference and the program agree. On the printed functions; conditions: sizes.
-/
import Derived.Test.YtkclaipnejgloaaGreatDoorAbIF1
namespace Go.Proofs.YtkclaipnejgloaaGreatDoor
open Go.RowKit
set_option linter.unusedVariables false
set_option linter.unusedSimpArgs false
section
variable {d : List Tbl} {q : Qry}
def ax (d : List Tbl) (q : Qry) : List Int:=q.2.1.map fun a => ((abB d a).2.length : Int)
theorem Z0 (h : Q7 d) (hq : smQ q) : GW d q = some (cond (Ik d q) (ax d q,true) ([],false)):=by
 unfold GW
 rw [Yr h hq]
 simp only [Ad]
 cases hb : Ik d q with
 | false => rfl
 | true =>
  obtain ⟨g1,g2,g3⟩:=MH hb
  rw [Bool.not_true,cond_false,G8 (a:=q.2.1) (h:=fun a => ((abB d a).2.length : Int)) (by unfold lim; omega) (fun k hk rec => by
   have ha:=g2 _ (List.getElem_mem hk)
   unfold GE
   simp only
   rw [Az hk,cond_true,Ai hk]
   simp only [Ad]
   rw [j4 h ha.1 ha.2]
   simp only
   rw [Ar (by simp only [List.length_map,List.length_take,List.length_singleton]; unfold lim; omega),AF hk (Au (by unfold lim; omega))]) (fun rec y => by unfold GE; simp only [Ax,cond_false])]
  rfl
theorem Zb (h : Q7 d) (hq : smQ q) : GM d q = some (cond (Ik d q) (ax d q,true) ([],false)):=by
 unfold GM
 rw [XY h hq]
 simp only [Ad]
 cases hb : Ik d q with
 | false => rfl
 | true =>
  obtain ⟨g1,g2,g3⟩:=MH hb
  rw [Bool.not_true,cond_false,G8 (a:=q.2.1) (h:=fun a => ((abB d a).2.length : Int)) (by unfold lim; omega) (fun k hk rec => by
   have ha:=g2 _ (List.getElem_mem hk)
   unfold Gz
   simp only
   rw [Az hk,cond_true,Ai hk]
   simp only [Ad]
   rw [jW h ha.1 ha.2]
   simp only
   rw [Ar (by simp only [List.length_map,List.length_take,List.length_singleton]; unfold lim; omega),AF hk (Au (by unfold lim; omega))]) (fun rec y => by unfold Gz; simp only [Ax,cond_false])]
  rfl
end
end Go.Proofs.YtkclaipnejgloaaGreatDoor
