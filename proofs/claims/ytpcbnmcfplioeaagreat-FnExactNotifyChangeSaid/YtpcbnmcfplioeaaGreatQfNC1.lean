/-
 When a query fits a database, when an order is valid, copies of queries: the reference and the program agree. On the printed functions; conditions: lengths.
-/
import Derived.Test.YtpcbnmcfplioeaaGreatQuNC1
namespace Go.Proofs.YtpcbnmcfplioeaaGreat
open Go.RowKit
set_option linter.unusedVariables false
set_option linter.unusedSimpArgs false
def Gp (d : List Tbl) (a : Atm) : Bool:=(B8 d a.1).2 && ((B8 d a.1).1.1 == (a.2.length : Int))
def Mp (d : List Tbl) (q : Qry) : Bool:=UH q && (dbB d && !A1 q.2.1 fun _ a => !Gp d a)
theorem ce {d : List Tbl} {q : Qry} (h : KU d) (hq : smQ q) : Fn d q = some (Mp d q):=by
 unfold Fn Mp A1
 rw [BS (fun k => atB q.2.1 k fun a => !Gp d a) hq.1 (fun k hk rec => by
  unfold Gl
  rw [AL hk,Am hk,AS hk (AA hq.1),AY hk]
  simp only [cond_true,Ad,TE h,Gp]
  cases (B8 d q.2.1[k].1).2 with
  | false => rfl
  | true =>
   simp only [Bool.not_true,cond_false,Bool.true_and,bne]) (fun rec => by unfold Gl; rw [AG]; rfl)]
 simp only [eJ hq,eG h,Ad,EM]
 cases (List.range q.2.1.length).any fun k => atB q.2.1 k fun a => !Gp d a <;> cases UH q <;> cases dbB d <;> rfl
theorem gQ {d : List Tbl} {q : Qry} (h : KU d) (hq : smQ q) : Gv d q = some (Mp d q):=by
 unfold Gv Mp A1
 simp only [de hq,gI h,Ad]
 rw [BS (fun k => atB q.2.1 k fun a => !Gp d a) hq.1 (fun k hk rec => by
  unfold Gi
  rw [AL hk,Am hk,AS hk (AA hq.1),AY hk]
  simp only [cond_true,Ad,Vj h,Gp]
  cases (B8 d q.2.1[k].1).2 with
  | false => rfl
  | true =>
   simp only [Bool.not_true,cond_false,Bool.true_and,bne]) (fun rec => by unfold Gi; rw [AG]; rfl)]
 cases (List.range q.2.1.length).any fun k => atB q.2.1 k fun a => !Gp d a <;> cases UH q <;> cases dbB d <;> rfl
theorem Yz {q : Qry} (h : smQ q) : Il q = some q:=by
 unfold Il
 rw [Ap (by simpa using h.2.2),Gk (a:=q.2.1) (h:=id) h.1 (fun k hk rec => by
  have hr:=(h.2.1 _ (List.getElem_mem hk)).2
  unfold It
  simp only
  rw [AL hk,Am hk,AS hk (AA h.1)]
  simp only [cond_true,Ad]
  rw [Ap (by simpa using hr),Ap (by simp only [List.length_map,List.length_take,List.length_singleton]; have:=h.1; omega)]
  rfl) (fun rec y => by unfold It; simp only; rw [AG]; rfl)]
 simp [Ad]
theorem Uq {q : Qry} (h : smQ q) : EU q = some q:=by
 unfold EU
 rw [Lc h.2.2,Gk (a:=q.2.1) (h:=id) h.1 (fun k hk rec => by
  have hr:=(h.2.1 _ (List.getElem_mem hk)).2
  unfold GQ
  simp only
  rw [AL hk,Am hk,AS hk (AA h.1)]
  simp only [cond_true,Ad,Lc hr]
  rw [Ap (by simp only [List.length_map,List.length_take,List.length_singleton]; have:=h.1; omega)]
  rfl) (fun rec y => by unfold GQ; simp only; rw [AG]; rfl)]
 simp [Ad]
end Go.Proofs.YtpcbnmcfplioeaaGreat
