/-
 EqualNotifiers: databases, queries, counted relations and notifiers compared; the reference and the program give the same. On the printed functions; conditions: lengths.
-/
import Derived.Test.YtklcofndjkjldaaGreatFhNT1
namespace Go.Proofs.YtklcofndjkjldaaGreat
open Go.RowKit
set_option linter.unusedVariables false
set_option linter.unusedSimpArgs false
theorem TV (a b : List Int) : (EJ a b != 0) = !(a == b):=by rw [bne,cmp_eq]
def Oo {α β : Type} (f : α -> β -> Bool) (a : List α) (b : List β) : Bool:=((a.length : Int) == (b.length : Int)) && !AU a fun k x => !atB b k (f x)
theorem Tl (m n : Nat) : ((m : Int) != (n : Int)) = !((m : Int) == (n : Int)):=rfl
def LL (a b : List (List Int)) : Bool:=Oo (fun x y => x == y) a b
def Qv (a b : Int × List (List Int)) : Bool:=(a.1 == b.1) && LL a.2 b.2
theorem Kh {m n : Nat} (h : ((m : Int) == (n : Int)) = true) : m = n:=by have h:=eq_of_beq h; omega
theorem Ry {a b : Int × List (List Int)} (h : A9 a.2) : B6 a b = some (Qv a b):=by
 unfold B6 Qv LL Oo AU
 rw [Tl,bne]
 cases a.1 == b.1 with
 | false => rfl
 | true =>
  cases hl : ((a.2.length : Int) == (b.2.length : Int)) with
  | false => rfl
  | true =>
   have hn:=Kh hl
   simp only [Bool.not_true,cond_false,Bool.true_and]
   rw [Bm (fun k => atB a.2 k fun x => !atB b.2 k fun y => x == y) h.1 (fun k hk rec => by
    have hk' : k < b.2.length:=by omega
    unfold D7
    rw [AF hk,Aj hk,Aj hk',AO hk (At h.1),AN hk,AN hk']
    simp only [cond_true,Ad,Ol (h.2 _ (List.getElem_mem hk)),TV]) (fun rec => by unfold D7; rw [Az]; rfl)]
   cases (List.range a.2.length).any fun k => atB a.2 k fun x => !atB b.2 k fun y => x == y <;> rfl
theorem V5 {a b : List (List Int)} (h : A9 a) : Hu a b = some (LL a b):=by
 unfold Hu LL Oo AU
 rw [Tl]
 cases hl : ((a.length : Int) == (b.length : Int)) with
 | false => rfl
 | true =>
  have hn:=Kh hl
  simp only [Bool.not_true,cond_false,Bool.true_and]
  rw [Bm (fun k => atB a k fun x => !atB b k fun y => x == y) h.1 (fun k hk rec => by
   have hk' : k < b.length:=by omega
   unfold G0
   rw [AF hk,Aj hk,Aj hk',AO hk (At h.1),AN hk,AN hk']
   simp only [cond_true,Ad,Xh (h.2 _ (List.getElem_mem hk))]) (fun rec => by unfold G0; rw [Az]; rfl)]
  cases (List.range a.length).any fun k => atB a k fun x => !atB b k fun y => x == y <;> rfl
def Zy (a b : List Tbl) : Bool:=Oo (fun x y => (x.1 == y.1) && Qv x.2 y.2) a b
theorem b9 {a b : List Tbl} (h : Iu a) : DP a b = some (Zy a b):=by
 unfold DP Zy Oo AU
 rw [Tl]
 cases hl : ((a.length : Int) == (b.length : Int)) with
 | false => rfl
 | true =>
  have hn:=Kh hl
  simp only [Bool.not_true,cond_false,Bool.true_and]
  rw [Bm (fun k => atB a k fun x => !atB b k fun y => (x.1 == y.1) && Qv x.2 y.2) h.1 (fun k hk rec => by
   have hk' : k < b.length:=by omega
   unfold D4
   rw [AF hk,Aj hk,Aj hk',AO hk (At h.1),AN hk,AN hk']
   simp only [cond_true,Ad,Ry (h.2 _ (List.getElem_mem hk)).2]
   cases a[k].1 == b[k].1 <;> rfl) (fun rec => by unfold D4; rw [Az]; rfl)]
  cases (List.range a.length).any fun k => atB a k fun x => !atB b k fun y => (x.1 == y.1) && Qv x.2 y.2 <;> rfl
abbrev ir:=List UInt8 × List Int
abbrev ZG:=Int × List ir × List Int
def il (q : ZG) : Prop:=q.2.1.length <= lim ∧ (∀ a ∈ q.2.1,a.2.length <= lim) ∧ q.2.2.length <= lim
def Qu (a b : ZG) : Bool:=(a.1 == b.1) && ((a.2.2 == b.2.2) && Oo (fun x y => (x.1 == y.1) && (x.2 == y.2)) a.2.1 b.2.1)
theorem Zi {a b : ZG} (h : il a) : Fa a b = some (Qu a b):=by
 unfold Fa Qu Oo AU
 simp only [Ol h.2.2,Ad,TV]
 rw [Tl,bne]
 cases a.1 == b.1 with
 | false => rfl
 | true =>
  cases a.2.2 == b.2.2 with
  | false => rfl
  | true =>
   cases hl : ((a.2.1.length : Int) == (b.2.1.length : Int)) with
   | false => rfl
   | true =>
    have hn:=Kh hl
    simp only [Bool.not_true,cond_false,Bool.true_and]
    rw [Bm (fun k => atB a.2.1 k fun x => !atB b.2.1 k fun y => (x.1 == y.1) && (x.2 == y.2)) h.1 (fun k hk rec => by
     have hk' : k < b.2.1.length:=by omega
     unfold EY
     rw [AF hk,Aj hk,Aj hk',AO hk (At h.1),AN hk,AN hk']
     simp only [cond_true,Ad,Ol (h.2.1 _ (List.getElem_mem hk)),TV]
     cases a.2.1[k].1 == b.2.1[k].1 <;> rfl) (fun rec => by unfold EY; rw [Az]; rfl)]
    cases (List.range a.2.1.length).any fun k => atB a.2.1 k fun x => !atB b.2.1 k fun y => (x.1 == y.1) && (x.2 == y.2) <;> rfl
abbrev Cnt:=Int × List (List Int) × List Int
def GL (c : Cnt) : Prop:=A9 c.2.1 ∧ c.2.2.length <= lim
def HO (a b : Cnt) : Bool:=(a.1 == b.1) && (LL a.2.1 b.2.1 && (a.2.2 == b.2.2))
theorem Ko {a b : Cnt} (h : GL a) : Bp a b = some (HO a b):=by
 unfold Bp Cu HO
 simp only [Ry (a:=(0,a.2.1)) (b:=(0,b.2.1)) h.1,Ol h.2,Ad,Qv,cmp_eq]
 cases a.1 == b.1 <;> cases LL a.2.1 b.2.1 <;> rfl
theorem Re {a b : Cnt} (h : GL a) : DC a b = some (HO a b):=by
 unfold DC Cr HO
 simp only [V5 h.1,Xh h.2,Ad]
 cases a.1 == b.1 <;> cases LL a.2.1 b.2.1 <;> rfl
abbrev Vw:=ZG × Cnt
abbrev Ntf:=List Tbl × List Vw × List Cnt
def i9 (v : Vw) : Prop:=il v.1 ∧ GL v.2
def ct (n : Ntf) : Prop:=Iu n.1 ∧ (n.2.1.length <= lim ∧ ∀ v ∈ n.2.1,i9 v) ∧ n.2.2.length <= lim ∧ ∀ c ∈ n.2.2,GL c
def Wo (a b : Ntf) : Bool:=Zy a.1 b.1 && (((a.2.1.length : Int) == (b.2.1.length : Int)) && (((a.2.2.length : Int) == (b.2.2.length : Int)) && ((!AU a.2.1 fun k x => !atB b.2.1 k fun y => Qu x.1 y.1 && HO x.2 y.2) && (!AU a.2.2 fun k x => !atB b.2.2 k fun y => HO x y))))
theorem Zg {a b : Ntf} (h : ct a) : DQ a b = some (Wo a b):=by
 unfold DQ Wo AU
 simp only [b9 h.1,Ad]
 rw [Tl,Tl]
 cases Zy a.1 b.1 with
 | false => rfl
 | true =>
  cases hl : ((a.2.1.length : Int) == (b.2.1.length : Int)) with
  | false => rfl
  | true =>
   cases hl2 : ((a.2.2.length : Int) == (b.2.2.length : Int)) with
   | false => rfl
   | true =>
    have hn:=Kh hl
    have hn2:=Kh hl2
    simp only [Bool.not_true,cond_false,Bool.true_and]
    rw [Bm (fun k => atB a.2.1 k fun x => !atB b.2.1 k fun y => Qu x.1 y.1 && HO x.2 y.2) h.2.1.1 (fun k hk rec => by
     have hk' : k < b.2.1.length:=by omega
     have hv:=h.2.1.2 _ (List.getElem_mem hk)
     unfold D5
     rw [AF hk,Aj hk,Aj hk',AO hk (At h.2.1.1),AN hk,AN hk']
     simp only [cond_true,Ad,Zi hv.1,Ko hv.2]
     cases Qu a.2.1[k].1 b.2.1[k].1 <;> rfl) (fun rec => by unfold D5; rw [Az]; rfl)]
    cases (List.range a.2.1.length).any fun k => atB a.2.1 k fun x => !atB b.2.1 k fun y => Qu x.1 y.1 && HO x.2 y.2 with
    | true => rfl
    | false =>
     simp only [cond_false,Bool.not_false,Bool.true_and]
     rw [Bm (fun k => atB a.2.2 k fun x => !atB b.2.2 k fun y => HO x y) h.2.2.1 (fun k hk rec => by
      have hk' : k < b.2.2.length:=by omega
      unfold D6
      rw [AF hk,Aj hk,Aj hk',AO hk (At h.2.2.1),AN hk,AN hk']
      simp only [cond_true,Ad,Ko (h.2.2.2 _ (List.getElem_mem hk))]) (fun rec => by unfold D6; rw [Az]; rfl)]
     cases (List.range a.2.2.length).any fun k => atB a.2.2 k fun x => !atB b.2.2 k fun y => HO x y <;> rfl
end Go.Proofs.YtklcofndjkjldaaGreat
