/-
 When a query fits a database, when an order is valid, copies of queries: the reference and the program agree. On the printed functions; conditions: lengths.
-/
import Derived.Test.YtkclaipnejgloaaGreatDoorQuIF1
namespace Go.Proofs.YtkclaipnejgloaaGreatDoor
open Go.RowKit
set_option linter.unusedVariables false
set_option linter.unusedSimpArgs false
def FY (d : List Tbl) (a : Atm) : Bool:=(Gr d a.1).2 && ((Gr d a.1).1.1 == (a.2.length : Int))
def Ik (d : List Tbl) (q : Qry) : Bool:=Ki q && (dbB d && !Ay q.2.1 fun _ a => !FY d a)
theorem Yr {d : List Tbl} {q : Qry} (h : Q7 d) (hq : smQ q) : Fu d q = some (Ik d q):=by
 unfold Fu Ik Ay
 rw [Bh (fun k => atB q.2.1 k fun a => !FY d a) hq.1 (fun k hk rec => by
  unfold F6
  rw [Az hk,Ai hk,AF hk (Au hq.1),AN hk]
  simp only [cond_true,Ad,Yo h,FY]
  cases (Gr d q.2.1[k].1).2 with
  | false => rfl
  | true =>
   simp only [Bool.not_true,cond_false,Bool.true_and,bne]) (fun rec => by unfold F6; rw [Ax]; rfl)]
 simp only [MI hq,jD h,Ad,EY]
 cases (List.range q.2.1.length).any fun k => atB q.2.1 k fun a => !FY d a <;> cases Ki q <;> cases dbB d <;> rfl
theorem XY {d : List Tbl} {q : Qry} (h : Q7 d) (hq : smQ q) : Fi d q = some (Ik d q):=by
 unfold Fi Ik Ay
 simp only [NU hq,jY h,Ad]
 rw [Bh (fun k => atB q.2.1 k fun a => !FY d a) hq.1 (fun k hk rec => by
  unfold F4
  rw [Az hk,Ai hk,AF hk (Au hq.1),AN hk]
  simp only [cond_true,Ad,XV h,FY]
  cases (Gr d q.2.1[k].1).2 with
  | false => rfl
  | true =>
   simp only [Bool.not_true,cond_false,Bool.true_and,bne]) (fun rec => by unfold F4; rw [Ax]; rfl)]
 cases (List.range q.2.1.length).any fun k => atB q.2.1 k fun a => !FY d a <;> cases Ki q <;> cases dbB d <;> rfl
theorem Yq {l : List Int} (h : l.length <= lim) : DO l = some (!Ay l (FR (l.length : Int) l) && decide ((l.length : Int) <= 5)):=by
 unfold DO Ay
 rw [Bh (fun k => atB l k (FR (l.length : Int) l k)) h (fun k hk rec => by
  unfold EX
  rw [Az hk,Ai hk,AF hk (Au h),AN hk]
  simp only [cond_true,Ad,H4]
  rw [Ar (by omega),Nn]
  simp only [Pj (l:=l.take k) (by rw [List.length_take]; omega),Kv,FR]
  cases btw l[k] 0 (IntKind.i64.wrap ((l.length : Int) - 1)) <;> rfl) (fun rec => by unfold EX; rw [Ax]; rfl)]
 cases (List.range l.length).any fun k => atB l k (FR (l.length : Int) l k) <;> simp [Ad]
def Ph (q : Qry) (o : List Int) : Bool:=Ki q && (((o.length : Int) == q.1) && !Ay o (FR q.1 o))
theorem LZ {q : Qry} (h : Ki q = true) : 1 <= q.1 ∧ q.1 <= 5:=by
 unfold Ki btw at h
 simp only [Bool.and_eq_true,decide_eq_true_eq] at h
 exact h.1
theorem VN {q : Qry} {o : List Int} (hq : smQ q) (ho : o.length <= lim) : El q o = some (Ph q o):=by
 unfold El CP Ph
 simp only [MI hq,Yq ho,Ad]
 cases hv : Ki q with
 | false => rfl
 | true =>
  have hn:=LZ hv
  cases hl : ((o.length : Int) == q.1) with
  | false => rfl
  | true =>
   have hl : (o.length : Int) = q.1:=by simpa using hl
   rw [hl,decide_eq_true hn.2]
   simp
theorem UR {q : Qry} {o : List Int} (hq : smQ q) (ho : o.length <= lim) : Ec q o = some (Ph q o):=by
 unfold Ec CI Ph
 simp only [NU hq,Y9 ho,Ad]
 cases Ki q with
 | false => rfl
 | true => cases ((o.length : Int) == q.1) <;> rfl
end Go.Proofs.YtkclaipnejgloaaGreatDoor
