/-
 When a query fits a database, when an order is valid, copies of queries: the reference and the program agree. On the printed functions; conditions: lengths.
-/
import Derived.Test.YtklcofndjkjldaaGreatQuNT1
namespace Go.Proofs.YtklcofndjkjldaaGreat
open Go.RowKit
set_option linter.unusedVariables false
set_option linter.unusedSimpArgs false
def Gc (d : List Tbl) (a : Atm) : Bool:=(BY d a.1).2 && ((BY d a.1).1.1 == (a.2.length : Int))
def J7 (d : List Tbl) (q : Qry) : Bool:=Oc q && (dbB d && !AU q.2.1 fun _ a => !Gc d a)
theorem OU {d : List Tbl} {q : Qry} (h : Iu d) (hq : smQ q) : DR d q = some (J7 d q):=by
 unfold DR J7 AU
 rw [Bm (fun k => atB q.2.1 k fun a => !Gc d a) hq.1 (fun k hk rec => by
  unfold F7
  rw [AF hk,Aj hk,AO hk (At hq.1),AN hk]
  simp only [cond_true,Ad,Qy h,Gc]
  cases (BY d q.2.1[k].1).2 with
  | false => rfl
  | true =>
   simp only [Bool.not_true,cond_false,Bool.true_and,bne]) (fun rec => by unfold F7; rw [Az]; rfl)]
 simp only [Vc hq,XC h,Ad,EC]
 cases (List.range q.2.1.length).any fun k => atB q.2.1 k fun a => !Gc d a <;> cases Oc q <;> cases dbB d <;> rfl
theorem ax {d : List Tbl} {q : Qry} (h : Iu d) (hq : smQ q) : Gf d q = some (J7 d q):=by
 unfold Gf J7 AU
 simp only [Yl hq,al h,Ad]
 rw [Bm (fun k => atB q.2.1 k fun a => !Gc d a) hq.1 (fun k hk rec => by
  unfold F5
  rw [AF hk,Aj hk,AO hk (At hq.1),AN hk]
  simp only [cond_true,Ad,Sa h,Gc]
  cases (BY d q.2.1[k].1).2 with
  | false => rfl
  | true =>
   simp only [Bool.not_true,cond_false,Bool.true_and,bne]) (fun rec => by unfold F5; rw [Az]; rfl)]
 cases (List.range q.2.1.length).any fun k => atB q.2.1 k fun a => !Gc d a <;> cases Oc q <;> cases dbB d <;> rfl
theorem Rw {q : Qry} (h : smQ q) : Gs q = some q:=by
 unfold Gs
 rw [Ak (by simpa using h.2.2),Fu (a:=q.2.1) (h:=id) h.1 (fun k hk rec => by
  have hr:=(h.2.1 _ (List.getElem_mem hk)).2
  unfold H6
  simp only
  rw [AF hk,Aj hk,AO hk (At h.1)]
  simp only [cond_true,Ad]
  rw [Ak (by simpa using hr),Ak (by simp only [List.length_map,List.length_take,List.length_singleton]; have:=h.1; omega)]
  rfl) (fun rec y => by unfold H6; simp only; rw [Az]; rfl)]
 simp [Ad]
theorem Rf {q : Qry} (h : smQ q) : EK q = some q:=by
 unfold EK
 rw [JM h.2.2,Fu (a:=q.2.1) (h:=id) h.1 (fun k hk rec => by
  have hr:=(h.2.1 _ (List.getElem_mem hk)).2
  unfold Gx
  simp only
  rw [AF hk,Aj hk,AO hk (At h.1)]
  simp only [cond_true,Ad,JM hr]
  rw [Ak (by simp only [List.length_map,List.length_take,List.length_singleton]; have:=h.1; omega)]
  rfl) (fun rec y => by unfold Gx; simp only; rw [Az]; rfl)]
 simp [Ad]
end Go.Proofs.YtklcofndjkjldaaGreat
