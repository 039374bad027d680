/- A machine on data, part 1: data, memory, operations. Over no program; no conditions. -/
import Derived.Test.YtdmpnamllcigdaaGreatDoorKz
open Go.RowKit
set_option linter.all false
namespace Go.Proofs.YtdmpnamllcigdaaGreatDoor
section
def eQ(w:World)(o:Obj):Below w.heap.size w (w.alloc o):=(Below.refl _ _).alloc (A5 _) _
def QN(w:World)(size:Nat)(v:Value)(n:Nat)(xs:List Value):Prop:=
 ∃A c,v=.slice A n c∧n<=9223372036854775807∧xs.length=n * size∧(0 < n->∃b off,A=some ⟨b,off,none⟩∧∀j u,xs[j]? =some u->w.cell? ⟨b,off+j,none⟩=some u)
end
section
section
variable {w w':World}{base:Nat}{e:TypeId}{size:Nat}{v:Value}{n:Nat}{xs:List Value}
def QN.VA(h:w.ownsRow base e size v n xs):QN w size v n xs:=by
 rcases h.2 with⟨rfl,rfl⟩|⟨g,cap,cur,rfl,_,hh,hnc,hm,hsz,hx⟩
 ·exact⟨none,0,rfl,aG,h.1,λh0=>absurd h0 aG⟩
 ·refine⟨some ⟨g,0,none⟩,cap,rfl,by unfold maxLen at hm;omega,h.1,λ_=>⟨g,0,rfl,λj u hu=>?_⟩⟩
  have hj:j < xs.length:=by
   rcases Bi j xs.length with h1|h1
   ·exact h1
   ·rw[Bt h1]at hu;cases hu
  simp only[World.cell?,hh,C9];rw[<-hx,EE]at hu;rw[h.1]at hj;rw[Az hj]at hu;simpa using hu
end
section
variable {t tl:TypeId}{w w':World}{base:Nat}{vs:List Value}{ll:List zI}{v:Value}
end
structure Fr (lo hi:Nat) (w w':World):Prop where
 os:w'.os=w.os
 tape:w'.tape=w.tape
 output:w'.output=w.output
 size:w.heap.size<=w'.heap.size
 block:∀k,k < w.heap.size->(k < lo∨hi<=k)->w'.heap[k]? =w.heap[k]?
structure FrS (S:Nat->Prop) (w w':World):Prop where
 os:w'.os=w.os
 tape:w'.tape=w.tape
 output:w'.output=w.output
 size:w.heap.size<=w'.heap.size
 block:∀k,k < w.heap.size->¬S k->w'.heap[k]? =w.heap[k]?
section
variable {t tl:TypeId}{w w':World}{S S':Nat->Prop}{v:Value}{l:zI}{ll:List zI}
end
def QN.drop_at{w size A m c news}(h:QN w size (.slice A m c) m news):
  news.length=m * size∧(A=none->m=0)∧∀ad,A=some ad->∀j u,news[j]? =some u->w.cell? (ad.add j)=some u:=by
 have⟨A',c',he,_,hl,hi⟩:=h;injection he with h1 _ h2
 subst h1;refine⟨hl,λh0=>?_,λad had j u hu=>?_⟩
 ·rcases DI m with hm|hm
  ·exact hm
  ·have⟨b,off,hb,_⟩:=hi hm;rw[h0]at hb;cases hb
 ·rcases DI m with hm|hm
  ·subst hm;have:news=[]:=BG (by simpa using hl);subst this;simp at hu
  ·have⟨b,off,hb,hc⟩:=hi hm;rw[had]at hb;injection hb with hb
   subst hb;have:=hc j u hu;unfold Addr.add;by_cases hj:j=0
   ·subst hj;simpa using this
   ·simpa[hj]using this
end
section
inductive V where
 |int (k:IntKind) (n:Int)
 |bool (b:Bool)
 |str (s:zU)
  |own (e:TypeId) (n:Nat) (cs:List V)
  |dat (n:Nat) (cs:List V)
  |arg (n:Nat) (cs:List V)
  |pin (u:Value) (n:Nat) (cs:List V)
 |agg (cs:List V)
 |tup (cs:List V)
  |box (cs:List V)
  |uni (e:TypeId) (n:Nat) (cs:List V)
  |same (s:Nat)
  |cref (s off:Nat)
  |adr (cs:List V) (off:Nat)
  |gh (us:List Value) (cs:List V)
  |fn (f:FuncId)
  |tok (u:Value)
  |val (s:Nat) (u:Value)
 |undef
def V.D3:V->Bool
 |.int .. |.bool .. |.str .. |.own .. |.dat .. |.arg .. |.pin .. |.fn .. |.tok .. =>true
 |_=>false
def Wl(P:Program)(e:TypeId):Nat:=((P.info? e).map (·.size)).getD 0
def lim:Nat:=1099511627776
def uY{P:Prop}(h:P:=by unfold lim;omega):P:=h
def Bk{n}(h:n<=lim):n<=maxLen:=by unfold lim at h;unfold maxLen;omega
section
variable (w:World)(St:Nat->Nat->Prop)
mutual
def Rd:V->Value->Prop
 |.int k n,v=>v=.int k n
 |.bool b,v=>v=.bool b
 |.str s,v=>v=.string ⟨s.toArray⟩∧s.length<=maxLen
 |.own _ n cs,v=>n<=maxLen∧∃A c,v=.slice A n c∧n<=c∧(0 < n->∃b off,A=some ⟨b,off,none⟩∧El b off cs)∧(n=0->cs=[])
 |.dat n cs,v=>n<=maxLen∧∃A c,v=.slice A n c∧n<=c∧(0 < n->∃b off,A=some ⟨b,off,none⟩∧El b off cs)∧(n=0->cs=[])
 |.pin u n cs,v=>v=u∧n<=maxLen∧∃A c,v=.slice A n c∧n<=c∧(0 < n->∃b off,A=some ⟨b,off,none⟩∧El b off cs)∧(n=0->cs=[])
 |.arg n cs,v=>n<=maxLen∧∃A c,v=.slice A n c∧n<=c∧(0 < n->∃b off,A=some ⟨b,off,none⟩∧(cs≠[]->∀o,St b o)∧El b off cs)∧(n=0->cs=[])
 |.fn f,v=>v=.func (.func f) #[] #[]
 |.tok u,v=>v=u∧u.oneCell'=true
 |_,_=>False
def El(b:Nat):Nat->List V->Prop
 |_,[]=>True
 |off,c::cs=>(St b off∧∃u,w.cell? ⟨b,off,none⟩=some u∧Rd c u)∧El b (off+1) cs
end
def S5:List V->List Value->Prop
 |[],us=>us=[]
 |c::cs,us=>∃u a,us=u::a∧Rd w St c u∧S5 cs a
def jS:V->Value->Prop
 |.agg cs,v=>∃us:List Value,v=.agg us.toArray∧S5 w St cs us
 |c,v=>Rd w St c v
end
def Ext(a:Nat->Nat->Prop)(w w':World):Prop:=∀b o,a b o->w'.cell? ⟨b,o,none⟩=w.cell? ⟨b,o,none⟩
section
variable {w w':World}{St St':Nat->Nat->Prop}
mutual
def Rd.mono(hs:∀b o,St b o->St' b o)(he:Ext St w w'):∀(c:V) {v:Value},Rd w St c v->Rd w' St' c v
 |.int _ _,_,h=>h
 |.bool _,_,h=>h
 |.str _,_,h=>h
 |.own _ _ cs,_,⟨hn,A,c,e,hc,h,h0⟩=>⟨hn,A,c,e,hc,λhp=>let⟨b,off,ea,hr⟩:=h hp;⟨b,off,ea,El.mono hs he b off cs hr⟩,h0⟩
 |.dat _ cs,_,⟨hn,A,c,e,hc,h,h0⟩=>⟨hn,A,c,e,hc,λhp=>let⟨b,off,ea,hr⟩:=h hp;⟨b,off,ea,El.mono hs he b off cs hr⟩,h0⟩
 |.pin _ _ cs,_,⟨hu,hn,A,c,e,hc,h,h0⟩=>⟨hu,hn,A,c,e,hc,λhp=>let⟨b,off,ea,hr⟩:=h hp;⟨b,off,ea,El.mono hs he b off cs hr⟩,h0⟩
 |.arg _ cs,_,⟨hn,A,c,e,hc,h,h0⟩=>⟨hn,A,c,e,hc,λhp=>let⟨b,off,ea,hw,hr⟩:=h hp;⟨b,off,ea,λhc o=>hs b o<|hw hc o,El.mono hs he b off cs hr⟩,h0⟩
 |.agg _,_,h=>h.elim
 |.tup _,_,h=>h.elim
 |.box _,_,h=>h.elim
 |.uni _ _ _,_,h=>h.elim
 |.same _,_,h=>h.elim
 |.val _ _,_,h=>h.elim
 |.cref _ _,_,h=>h.elim
 |.adr _ _,_,h=>h.elim
 |.gh _ _,_,h=>h.elim
 |.fn _,_,h=>h
 |.tok _,_,h=>h
 |.undef,_,h=>h.elim
def El.mono(a:∀b o,St b o->St' b o)(d:Ext St w w')(b:Nat):∀(off:Nat) (cs:List V),El w St b off cs->El w' St' b off cs
 |_,[],_=>trivial
 |off,c::cs,⟨⟨e,u,f,g⟩,h⟩=>⟨⟨a b off e,u,(d b off e).trans f,Rd.mono a d c g⟩,El.mono a d b (off+1) cs h⟩
end
def S5.mono(d:∀b o,St b o->St' b o)(f:Ext St w w'):∀(cs:List V) {us:List Value},S5 w St cs us->S5 w' St' cs us
 |[],_,h=>h
 |c::cs,_,⟨u,a,e,g,i⟩=>⟨u,a,e,Rd.mono d f c g,S5.mono d f cs i⟩
def jS.mono(a:∀b o,St b o->St' b o)(d:Ext St w w'):∀(c:V) {v:Value},jS w St c v->jS w' St' c v
 |.agg cs,_,⟨us,e,h⟩=>⟨us,e,h.mono a d⟩
 |.int _ _,_,h=>h
 |.bool _,_,h=>h
 |.str _,_,h=>h
 |.own _ _ _,_,h=>Rd.mono a d _ h
 |.dat _ _,_,h=>Rd.mono a d _ h
 |.pin _ _ _,_,h=>Rd.mono a d _ h
 |.arg _ _,_,h=>Rd.mono a d _ h
 |.tup _,_,h=>h.elim
 |.box _,_,h=>h.elim
 |.uni _ _ _,_,h=>h.elim
 |.same _,_,h=>h.elim
 |.val _ _,_,h=>h.elim
 |.cref _ _,_,h=>h.elim
 |.adr _ _,_,h=>h.elim
 |.gh _ _,_,h=>h.elim
 |.fn _,_,h=>h
 |.tok _,_,h=>h
 |.undef,_,h=>h.elim
def Rd.oneCell{c v}(h:Rd w St c v):v.oneCell'=true:=by
 cases c<;>simp only[Rd]at h
 ·subst h;rfl
 ·subst h;rfl
 ·rw[h.1];rfl
 all_goals first|(rw[h.1];exact h.2)|(subst h;rfl)|(obtain⟨_,A,c,rfl,_⟩:=h;rfl)|(have⟨_,_,A,c,e,_⟩:=h;rw[e];rfl)
def Rd.D3{c v}(h:Rd w St c v):c.D3=true:=by cases c<;>simp only[Rd]at h<;>rfl
def S5.length:∀{cs:List V}{us:List Value},S5 w St cs us->us.length=cs.length
 |[],_,h=>by cases h;rfl
 |_::_,_,⟨_,_,e,_,h⟩=>by rw[e,AC,AC,S5.length h]
def El.at_{b}:∀{cs:List V}{off:Nat},El w St b off cs->∀(j:Nat) (c:V),cs[j]? =some c->St b (off+j)∧∃u,w.cell? ⟨b,off+j,none⟩=some u∧Rd w St c u
 |[],_,_,j,c,h=>by simp at h
 |d::cs,off,h,0,c,e=>by simp only[CB,Av]at e;subst e;exact h.1
 |d::cs,off,h,j+1,c,e=>by have a:El w St b (off+1) cs:=h.2;have:=El.at_ a j c (by simpa using e);rw[show off+(j+1)=off+1+j by omega];exact this
def El.drop{b}:∀{cs:List V}{off:Nat}(k:Nat),El w St b off cs->El w St b (off+k) (cs.drop k)
 |[],_,k,_=>by simp[El]
 |_::_,_,0,h=>by simpa using h
 |_::cs,off,k+1,h=>by have:=El.drop (cs:=cs) (off:=off+1) k h.2;rw[show off+(k+1)=off+1+k by omega];simpa using this
def El.take{b}:∀{cs:List V}{off:Nat}(k:Nat),El w St b off cs->El w St b off (cs.take k)
 |[],_,k,_=>by simp[El]
 |_::_,_,0,h=>by simp[El]
 |_::cs,off,k+1,h=>by rw[Eu];exact⟨h.1,El.take (cs:=cs) k h.2⟩
def El.mk{b}:∀{cs:List V}{off:Nat},(∀(j:Nat) (c:V),cs[j]? =some c->St b (off+j)∧∃u,w.cell? ⟨b,off+j,none⟩=some u∧Rd w St c u)->El w St b off cs
 |[],_,_=>trivial
 |d::cs,off,h=>⟨h 0 d rfl,El.mk λj c e=>by have:=h (j+1) c (by simpa using e);rw[show off+1+j=off+(j+1)by omega];exact this⟩
def El.list{b}:∀{cs:List V}{off:Nat},El w St b off cs->∃us:List Value,S5 w St cs us∧∀(j:Nat) (u:Value),us[j]? =some u->w.cell? ⟨b,off+j,none⟩=some u
 |[],_,_=>⟨[],rfl,nF⟩
 |c::cs,off,⟨⟨_,u,d,e⟩,f⟩=>by
  have⟨us,g,h⟩:=El.list f;refine⟨u::us,⟨u,us,rfl,e,g⟩,λj x a=>?_⟩;cases j with
  |zero=>simp only[CB,Av]at a;subst a;exact d
  |succ j=>rw[show off+(j+1)=off+1+j by omega];exact h j x (by simpa using a)
def S5.get:∀{cs:List V}{us:List Value},S5 w St cs us->∀(j:Nat) (c:V),cs[j]? =some c->∃u,us[j]? =some u∧Rd w St c u
 |[],_,_,j,c,e=>by simp at e
 |_::_,_,⟨u,b,e,d,f⟩,0,c,a=>by simp only[CB,Av]at a;subst a;exact⟨u,by rw[e];rfl,d⟩
 |_::_,_,⟨u,b,e,d,f⟩,j+1,c,a=>by rw[e];simpa using S5.get f j c (by simpa using a)
def S5.oneCell:∀{cs:List V}{us:List Value},S5 w St cs us->∀u∈us,u.oneCell'=true
 |[],_,h,u,a=>by rw[show _=[]from h]at a;simp at a
 |c::cs,_,⟨x,b,e,d,f⟩,u,a=>by
  rw[e]at a;rcases AL.1 a with rfl|a
  ·exact d.oneCell
  ·exact S5.oneCell f u a
end
section
variable (P:Program)(w:World)(St:Nat->Nat->Prop)
mutual
def Ow:V->Value->zN->Prop
 |.int k n,v,bs=>bs=[]∧Rd w St (.int k n) v
 |.bool b,v,bs=>bs=[]∧Rd w St (.bool b) v
 |.str s,v,bs=>bs=[]∧Rd w St (.str s) v
 |.dat n cs,v,bs=>bs=[]∧Rd w St (.dat n cs) v
 |.arg n cs,v,bs=>bs=[]∧Rd w St (.arg n cs) v
 |.pin u n cs,v,bs=>bs=[]∧Rd w St (.pin u n cs) v
 |.own e n cs,v,bs=>n<=lim∧∃xs a,w.ownsRow 0 e (Wl P e) v n xs∧Bx cs xs a∧bs=v.ownBlock.toList++a∧(∀g,v.ownBlock=some g->∀o,St g o↔o < n * Wl P e)∧(n=0->cs=[])
 |.agg cs,v,bs=>∃us:List Value,v=.agg us.toArray∧Bx cs us bs
 |.tup cs,v,bs=>∃us:List Value,v=.tuple us.toArray∧MB cs us bs
 |.fn f,v,bs=>bs=[]∧Rd w St (.fn f) v
 |.tok u,v,bs=>bs=[]∧Rd w St (.tok u) v
 |_,_,_=>False
def Bx:List V->List Value->zN->Prop
 |[],us,bs=>us=[]∧bs=[]
 |c::cs,us,bs=>∃u a b1 b2,us=u::a∧bs=b1++b2∧c.D3=true∧Ow c u b1∧Bx cs a b2
def MB:List V->List Value->zN->Prop
 |[],us,bs=>us=[]∧bs=[]
 |c::cs,us,bs=>∃u a b1 b2,us=u::a∧bs=b1++b2∧Ow c u b1∧MB cs a b2
end
end
section
variable {P:Program}{w w':World}{St St':Nat->Nat->Prop}
mutual
def Ow.mono(i:∀b o,St b o->St' b o)(j:Ext St w w'):∀(c:V) {v:Value}{bs:zN},Ow P w St c v bs->(∀g∈bs,w'.heap[g]? =w.heap[g]? ∧∀o,St' g o↔St g o)->Ow P w' St' c v bs
 |.int _ _,_,_,⟨a,d⟩,_=>⟨a,d⟩
 |.bool _,_,_,⟨a,d⟩,_=>⟨a,d⟩
 |.str _,_,_,⟨a,d⟩,_=>⟨a,d⟩
 |.dat _ _,_,_,⟨a,d⟩,_=>⟨a,d.mono i j⟩
 |.arg _ _,_,_,⟨a,d⟩,_=>⟨a,d.mono i j⟩
 |.pin _ _ _,_,_,⟨a,d⟩,_=>⟨a,d.mono i j⟩
 |.own e n cs,v,bs,⟨s,xs,m,a,d,l,t,u⟩,f=>by
  refine⟨s,xs,m,?_,Bx.mono i j cs d<|λg k=>f g<|by rw[l];exact AB _ k,l,λg k o=>?_,u⟩
  ·refine⟨a.1,?_⟩;rcases a.2 with h|⟨g,p,q,rfl,k,x,r⟩
   ·exact .inl h
   ·exact .inr ⟨g,p,q,rfl,k,by rw[(f g<|by rw[l];simp[Value.ownBlock]).1];exact x,r⟩
  ·rw[(f g<|by rw[l,k];simp).2 o];exact t g k o
 |.agg cs,_,_,⟨us,e,h⟩,f=>⟨us,e,Bx.mono i j cs h f⟩
 |.tup cs,_,_,⟨us,e,h⟩,f=>⟨us,e,MB.mono i j cs h f⟩
 |.box _,_,_,h,_=>h.elim
 |.uni _ _ _,_,_,h,_=>h.elim
 |.same _,_,_,h,_=>h.elim
 |.val _ _,_,_,h,_=>h.elim
 |.cref _ _,_,_,h,_=>h.elim
 |.adr _ _,_,_,h,_=>h.elim
 |.gh _ _,_,_,h,_=>h.elim
 |.fn _,_,_,⟨a,d⟩,_=>⟨a,d⟩
 |.tok _,_,_,⟨a,d⟩,_=>⟨a,d⟩
 |.undef,_,_,h,_=>h.elim
def Bx.mono(e:∀b o,St b o->St' b o)(f:Ext St w w'):∀(cs:List V) {us:List Value}{bs:zN},Bx P w St cs us bs->(∀g∈bs,w'.heap[g]? =w.heap[g]? ∧∀o,St' g o↔St g o)->Bx P w' St' cs us bs
 |[],_,_,h,_=>h
 |c::cs,_,_,⟨u,a,b1,b2,j,e2,k,l,m⟩,i=>⟨u,a,b1,b2,j,e2,k,Ow.mono e f c l<|λg d=>i g<|by rw[e2];exact AD _ d,Bx.mono e f cs m<|λg d=>i g<|by rw[e2];exact AB _ d⟩
def MB.mono(e:∀b o,St b o->St' b o)(f:Ext St w w'):∀(cs:List V) {us:List Value}{bs:zN},MB P w St cs us bs->(∀g∈bs,w'.heap[g]? =w.heap[g]? ∧∀o,St' g o↔St g o)->MB P w' St' cs us bs
 |[],_,_,h,_=>h
 |c::cs,_,_,⟨u,a,b1,b2,j,e2,k,l⟩,i=>⟨u,a,b1,b2,j,e2,Ow.mono e f c k<|λg d=>i g<|by rw[e2];exact AD _ d,MB.mono e f cs l<|λg d=>i g<|by rw[e2];exact AB _ d⟩
end
mutual
def Ow.rd:∀(c:V) {v:Value}{bs:zN},Ow P w St c v bs->c.D3=true->Rd w St c v
 |.int _ _,_,_,h,_=>h.2
 |.bool _,_,_,h,_=>h.2
 |.str _,_,_,h,_=>h.2
 |.dat _ _,_,_,h,_=>h.2
 |.arg _ _,_,_,h,_=>h.2
 |.pin _ _ _,_,_,h,_=>h.2
 |.own e n cs,v,bs,⟨i,xs,o,k,p,A,q,l⟩,_=>by
  have r:=k.1;rcases k.2 with⟨rfl,rfl⟩|⟨g,d,s,rfl,B,t,x,C,y,z⟩
  ·exact⟨Bk i,none,0,rfl,A5 _,λh=>absurd h aG,l⟩
  ·refine⟨Bk i,_,d,rfl,x,λ_=>⟨g,0,rfl,?_⟩,l⟩;have f:=q g rfl
   have a:∀(j:Nat) (u:Value),xs[j]? =some u->St g j∧w.cell? ⟨g,j,none⟩=some u:=by
    intro j u b
    have m:j < n * Wl P e:=by
     rw[<-r];rcases Bi j xs.length with h|h
     ·exact h
     ·rw[Bt h]at b;cases b
    refine⟨(f j).2 m,?_⟩;simp only[World.cell?,t];rw[<-z,EE,Az m]at b;simpa using b
   exact Bx.Adz cs 0 p (λj u b=>by simpa using a j u b)
 |.agg _,_,_,_,h=>by cases h
 |.tup _,_,_,_,h=>by cases h
 |.box _,_,_,h,_=>h.elim
 |.uni _ _ _,_,_,h,_=>h.elim
 |.same _,_,_,h,_=>h.elim
 |.val _ _,_,_,h,_=>h.elim
 |.cref _ _,_,_,h,_=>h.elim
 |.adr _ _,_,_,h,_=>h.elim
 |.gh _ _,_,_,h,_=>h.elim
 |.fn _,_,_,h,_=>h.2
 |.tok _,_,_,h,_=>h.2
 |.undef,_,_,h,_=>h.elim
def Bx.Adz{g}:∀(cs:List V) (off:Nat) {us:List Value}{bs:zN},Bx P w St cs us bs->(∀(j:Nat) (u:Value),us[j]? =some u->St g (off+j)∧w.cell? ⟨g,off+j,none⟩=some u)->El w St g off cs
 |[],_,_,_,_,_=>trivial
 |c::cs,off,_,_,⟨u,e,b1,b2,a,e2,f,h,i⟩,b=>by have d:=b 0 u (by rw[a];rfl);refine⟨⟨by simpa using d.1,u,by simpa using d.2,Ow.rd c h f⟩,Bx.Adz cs (off+1) i<|λj x k=>?_⟩;have:=b (j+1) x (by rw[a];simpa using k);rw[show off+1+j=off+(j+1)by omega];exact this
end
def Bx.rdL:∀(cs:List V) {us:List Value}{bs:zN},Bx P w St cs us bs->S5 w St cs us
 |[],_,_,h=>h.1
 |_::cs,_,_,⟨u,a,_,_,b,_,c,d,e⟩=>⟨u,a,b,Ow.rd _ d c,Bx.rdL cs e⟩
def Bx.length{cs us bs}(h:Bx P w St cs us bs):us.length=cs.length:=(Bx.rdL cs h).length
end
def WS:V->V
 |.own _ n cs=>.dat n cs
 |c=>c
def dg2:V->V
 |.agg cs=>.agg<|cs.map WS
 |c=>WS c
def dg:V->V
 |.tup cs=>.tup<|cs.map dg2
 |c=>dg2 c
section
variable {P:Program}{w w':World}{St St':Nat->Nat->Prop}
def ZC{c}(h:c.D3=true):(WS c).D3=true:=by cases c<;>first|rfl|exact h
def Rd.dp{c v}(h:Rd w St c v):Rd w St (WS c) v:=by cases c<;>exact h
def Ow.dp{c v bs}(h:Ow P w St c v bs)(a:c.D3=true):Ow P w St (WS c) v []:=by have b:=(Ow.rd c h a).dp;cases c<;>first|exact⟨rfl,b⟩|cases a
def Bx.dp:∀(cs:List V) {us:List Value}{bs:zN},Bx P w St cs us bs->Bx P w St (cs.map WS) us []
 |[],_,_,h=>⟨h.1,rfl⟩
 |c::cs,_,_,⟨u,a,b1,b2,d,e2,b,e,f⟩=>⟨u,a,[],[],d,rfl,ZC b,e.dp b,Bx.dp cs f⟩
def Ow.Aav{c v bs}(h:Ow P w St c v bs)(a:c.D3=true∨∃cs,c=.agg cs):Ow P w St (dg2 c) v []:=by
 rcases a with a|⟨cs,rfl⟩
 ·have:dg2 c=WS c:=by cases c<;>first|rfl|cases a
  rw[this];exact h.dp a
 ·have⟨us,e,h⟩:=h;exact⟨us,e,h.dp⟩
def V.isArg:V->Bool
 |.agg _=>true
 |c=>c.D3
def xd{c:V}(h:c.isArg=true):c.D3=true∨∃cs,c=.agg cs:=by cases c<;>first|exact .inl h|exact .inr ⟨_,rfl⟩
def Ow.OP{c v bs}(h:Ow P w St c v bs)(a:c.isArg=true):Ow P w St (dg2 c) v []:=h.Aav<|xd a
def Ow.rda{c v bs}(h:Ow P w St c v bs)(a:c.isArg=true):jS w St c v:=by
 cases c<;>first|exact Ow.rd _ h a|cases a|skip
 have⟨us,e,h⟩:=h;exact⟨us,e,h.rdL⟩
def MB.Aav:∀(cs:List V) {us:List Value}{bs:zN},MB P w St cs us bs->cs.all V.isArg=true->MB P w St (cs.map dg2) us []
 |[],_,_,h,_=>⟨h.1,rfl⟩
 |c::cs,_,_,⟨u,a,b1,b2,d,e2,e,f⟩,b=>by simp only[BM,Ab]at b;exact⟨u,a,[],[],d,rfl,e.OP b.1,MB.Aav cs f b.2⟩
def V.isVal:V->Bool
 |.tup cs=>cs.all V.isArg
 |c=>c.isArg
def Ow.deg{c v bs}(h:Ow P w St c v bs)(a:c.isVal=true):Ow P w St (dg c) v []:=by
 cases c<;>first|exact h.OP a|cases a|skip
 have⟨us,e,h⟩:=h;exact⟨us,e,MB.Aav _ h a⟩
def Ow.AiF{c v}(h:Rd w St (WS c) v):Ow P w St (WS c) v []:=by cases c<;>first|exact⟨rfl,h⟩|exact h.elim
def Bx.x7:∀(cs:List V) {us:List Value},S5 w St cs us->Bx P w St (cs.map WS) us []
 |[],_,h=>⟨h,rfl⟩
 |c::cs,_,⟨u,a,e,b,d⟩=>⟨u,a,[],[],e,rfl,ZC b.D3,Ow.AiF b.dp,Bx.x7 cs d⟩
end
mutual
def er:V->V
 |.own _ n cs=>.dat n<|ON cs
 |.dat n cs=>.dat n<|ON cs
 |.arg n cs=>.dat n<|ON cs
 |.pin _ n cs=>.dat n<|ON cs
 |.agg cs=>.agg<|ON cs
 |.int k n=>.int k n
 |.bool b=>.bool b
 |.str s=>.str s
 |.fn f=>.fn f
 |.tok u=>.tok u
 |_=>.undef
def ON:List V->List V
 |[]=>[]
 |c::cs=>er c::ON cs
end
section
variable {P:Program}{w w':World}{St St':Nat->Nat->Prop}
def dO{cs}(h:cs=[]):ON cs=[]:=by subst h;rfl
mutual
def Rd.erase:∀(c:V) {v:Value},Rd w St c v->Rd w St (er c) v
 |.int _ _,_,h=>h
 |.bool _,_,h=>h
 |.str _,_,h=>h
 |.own _ _ cs,_,⟨hn,A,c,e,hc,h,h0⟩=>⟨hn,A,c,e,hc,λhp=>let⟨b,off,ea,hr⟩:=h hp;⟨b,off,ea,El.erase b off cs hr⟩,λhz=>dO<|h0 hz⟩
 |.dat _ cs,_,⟨hn,A,c,e,hc,h,h0⟩=>⟨hn,A,c,e,hc,λhp=>let⟨b,off,ea,hr⟩:=h hp;⟨b,off,ea,El.erase b off cs hr⟩,λhz=>dO<|h0 hz⟩
 |.pin _ _ cs,_,⟨_,hn,A,c,e,hc,h,h0⟩=>⟨hn,A,c,e,hc,λhp=>let⟨b,off,ea,hr⟩:=h hp;⟨b,off,ea,El.erase b off cs hr⟩,λhz=>dO<|h0 hz⟩
 |.arg _ cs,_,⟨hn,A,c,e,hc,h,h0⟩=>⟨hn,A,c,e,hc,λhp=>let⟨b,off,ea,_,hr⟩:=h hp;⟨b,off,ea,El.erase b off cs hr⟩,λhz=>dO<|h0 hz⟩
 |.agg _,_,h=>h.elim
 |.tup _,_,h=>h.elim
 |.box _,_,h=>h.elim
 |.uni _ _ _,_,h=>h.elim
 |.same _,_,h=>h.elim
 |.val _ _,_,h=>h.elim
 |.cref _ _,_,h=>h.elim
 |.adr _ _,_,h=>h.elim
 |.gh _ _,_,h=>h.elim
 |.fn _,_,h=>h
 |.tok _,_,h=>h
 |.undef,_,h=>h.elim
def El.erase(b:Nat):∀(off:Nat) (cs:List V),El w St b off cs->El w St b off (ON cs)
 |_,[],_=>trivial
 |off,c::cs,⟨⟨a,u,d,e⟩,f⟩=>⟨⟨a,u,d,Rd.erase c e⟩,El.erase b (off+1) cs f⟩
end
def S5.erase:∀(cs:List V) {us:List Value},S5 w St cs us->S5 w St (ON cs) us
 |[],_,h=>h
 |c::cs,_,⟨u,a,e,b,d⟩=>⟨u,a,e,Rd.erase c b,S5.erase cs d⟩
def jS.erase{c v}(h:jS w St c v):jS w St (er c) v:=by
 cases c<;>first|exact Rd.erase _ h|exact h.elim|skip
 have⟨us,e,h⟩:=h;exact⟨us,e,h.erase⟩
end
end
section
def upd{α:Type}(f:Nat->α)(d:Nat)(x:α):Nat->α:=λs=>if s=d then x else f s
def upd_same{α:Type}(f:Nat->α)(d:Nat)(x:α):upd f d x d=x:=by simp[upd]
def upd_ne{α:Type}(f:Nat->α){d s:Nat}(x:α)(h:s≠d):upd f d x s=f s:=by simp[upd,h]
abbrev PS:=Nat->V
def tm(a:Act)(s:Nat):Value:=a.tmps.getD s undef
def zx(a:Act)(d:Nat)(v:Value)(h:d < a.tmps.size):tm (a.put (some d) v)=upd (tm a) d v:=by
 funext s;simp only[tm,Act.put,upd];by_cases e:s=d
 ·subst e;simp[h]
 ·simp only[AA e,DT];rw[Array.getElem?_setIfInBounds_ne aG]
def size_put(a:Act)(d:Option Tmp)(v:Value):(a.put d v).tmps.size=a.tmps.size:=by cases d<;>simp[Act.put]
def fc(a:Act)(d:Option Tmp)(v:Value):(a.put d v).defers=a.defers:=by cases d<;>simp[Act.put]
def Z5:Value->Option Nat
 |.pointer (some ⟨g,0,none⟩)=>some g
 |.slice (some ⟨g,0,none⟩) _ _=>some g
 |_=>none
def DC:V->Option (List V)
 |.box cs=>some cs
 |.uni _ _ cs=>some cs
 |_=>none
def WY(c:V)(cs:List V):V:=match c with
 |.uni e n _=>.uni e n cs
 |_=>.box cs
def eT(c:V)(cs:List V):DC (WY c cs)=some cs:=by cases c<;>rfl
def Ex:V->Option Nat
 |.cref b _=>some b
 |.same b=>some b
 |.val b _=>some b
 |_=>none
section
variable (P:Program)(w:World)(St:Nat->Nat->Prop)(t:Nat->Value)
def CC:V->Value->zN->Prop
 |.undef,_,bs=>bs=[]
 |.box cs,v,bs=>∃g T a,∃c:Array Value,v=.pointer (some ⟨g,0,none⟩)∧w.heap[g]? =some (.cells c T (0,0))∧Bx P w St cs c.toList a∧bs=g::a∧∀o,¬St g o
 |.uni e n cs,v,bs=>∃g a,∃c:Array Value,v=.slice (some ⟨g,0,none⟩) n n∧w.heap[g]? =some (.cells c e (0,0))∧Bx P w St cs c.toList a∧bs=g::a∧(∀o,¬St g o)∧n<=lim∧cs.length=n * Wl P e
 |.same s,v,bs=>bs=[]∧v=t s
 |.val s u,_,bs=>bs=[]∧u=t s
 |.cref s off,v,bs=>bs=[]∧∃g,Z5 (t s)=some g∧v=.pointer (some ⟨g,off,none⟩)
 |.adr cs off,v,bs=>bs=[]∧∃b o,v=.pointer (some ⟨b,o,none⟩)∧El w St b o (cs.drop off)
 |.int k n,v,bs=>Ow P w St (.int k n) v bs
 |.bool b,v,bs=>Ow P w St (.bool b) v bs
 |.str s,v,bs=>Ow P w St (.str s) v bs
 |.own e n cs,v,bs=>Ow P w St (.own e n cs) v bs
 |.dat n cs,v,bs=>Ow P w St (.dat n cs) v bs
 |.arg n cs,v,bs=>Ow P w St (.arg n cs) v bs
 |.pin u n cs,v,bs=>Ow P w St (.pin u n cs) v bs
 |.gh us cs,_,bs=>Bx P w St cs us bs
 |.agg cs,v,bs=>Ow P w St (.agg cs) v bs
 |.tup cs,v,bs=>Ow P w St (.tup cs) v bs
 |.fn f,v,bs=>Ow P w St (.fn f) v bs
 |.tok u,v,bs=>Ow P w St (.tok u) v bs
end
section
variable {P:Program}{w w':World}{St St':Nat->Nat->Prop}{t t':Nat->Value}
def CC.ow{c v bs}(h:CC P w St t c v bs)(a:c.isVal=true):Ow P w St c v bs:=by cases c<;>first|exact h|cases a
def Ow.slot{c v bs}(h:Ow P w St c v bs):CC P w St t c v bs:=by cases c<;>first|exact h|exact h.elim
def CC.mono(d:∀b o,St b o->St' b o)(i:Ext St w w'){c:V}{v:Value}{bs:zN}(h:CC P w St t c v bs)
  (a:∀g∈bs,w'.heap[g]? =w.heap[g]? ∧∀o,St' g o↔St g o) (r:∀b,Ex c=some b->t' b=t b):CC P w' St' t' c v bs:=by
 cases c with
 |undef=>exact h
 |box cs=>obtain⟨g,T,l,m,y,e2,j,rfl,p⟩:=h;have q:=a g nF;exact⟨g,T,l,m,y,by rw[q.1];exact e2,j.mono d i _<|λx z=>a x<|by simp[z],rfl,λo A=>p o<|(q.2 o).1 A⟩
 |uni e n cs=>obtain⟨g,l,m,y,e2,j,rfl,p,B⟩:=h;have q:=a g nF;exact⟨g,l,m,y,by rw[q.1];exact e2,j.mono d i _<|λx z=>a x<|by simp[z],rfl,λo A=>p o<|(q.2 o).1 A,B⟩
 |same s=>have⟨e,j⟩:=h;exact⟨e,by rw[r s rfl];exact j⟩
 |val s u=>have⟨e,j⟩:=h;exact⟨e,by rw[r s rfl];exact j⟩
 |cref s off=>have⟨e,g,j,p⟩:=h;exact⟨e,g,by rw[r s rfl];exact j,p⟩
 |adr cs off=>have⟨e,b,o,j,p⟩:=h;exact⟨e,b,o,j,El.mono d i b o _ p⟩
 |int k n=>exact Ow.mono d i _ h a
 |bool k=>exact Ow.mono d i _ h a
 |str k=>exact Ow.mono d i _ h a
 |own e n cs=>exact Ow.mono d i _ h a
 |dat n cs=>exact Ow.mono d i _ h a
 |arg n cs=>exact Ow.mono d i _ h a
 |pin u n cs=>exact Ow.mono d i _ h a
 |gh us cs=>exact Bx.mono d i _ h a
 |agg cs=>exact Ow.mono d i _ h a
 |tup cs=>exact Ow.mono d i _ h a
 |fn f=>exact Ow.mono d i _ h a
 |tok u=>exact Ow.mono d i _ h a
end
structure Bs where
 K:Nat->Prop
 pin:List (Nat×Value)
instance:CoeFun Bs (λ_=>Nat->Prop):=⟨Bs.K⟩
def SQ:Nat:=1000000
def lays:List (Nat×List (IntKind×Int)):=[(0,[(.i64,1),(.i64,1)])]
def Glb(w:World)(a:Nat->Nat->Prop):Prop:=∀p∈lays,(∀o,a p.1 o)∧∀i x,p.2[i]? =some x->w.cell? ⟨p.1,i,none⟩=some (.int x.1 x.2)
def Glb.of{w w' St St'}(h:Glb w St)(c:∀b,(∀o,St b o)->∀o,St' b o)(d:∀b o,(∀o,St b o)->w'.cell? ⟨b,o,none⟩=w.cell? ⟨b,o,none⟩):Glb w' St':=
 λp a=>⟨c _ (h p a).1,λi x e=>(d _ _ (h p a).1).trans<|(h p a).2 i x e⟩
structure HSim (P:Program) (nt:Nat) (bx:zN) (base:Bs) (St:Nat->Nat->Prop) (B:Nat->zN) (hand:zN) (σ:PS) (a:Act) (w:World):Prop where
 size:a.tmps.size=nt
 defers:a.defers=[]
 slot:∀s,CC P w St (tm a) (σ s) (tm a s) (B s)
 boxes:∀s cs,DC (σ s)=some cs->s∈bx
 crefs:∀s b,Ex (σ s)=some b->∃cs,DC (σ b)=some cs
 nodup:∀s,(B s).Nodup
 apart:∀s t,s≠t->∀g∈B s,g∉B t
 hnodup:hand.Nodup
 hapart:∀s,∀g∈B s,g∉hand
 range:∀s,∀g∈B s,¬base g∧g < w.heap.size
 hrange:∀g∈hand,¬base g∧g < w.heap.size
 st:∀b o,St b o->b < w.heap.size
 gl:Glb w St
 pin:∀p∈base.pin,tm a p.1=p.2∧p.1∈bx∧SQ+p.1∈bx
section
variable {P:Program}{nt:Nat}{base:Bs}{bx:zN}{St St':Nat->Nat->Prop}{B:Nat->zN}{hand:zN}{σ:PS}{a:Act}{w w':World}
def HSim.world(h:HSim P nt bx base St B hand σ a w)(f:∀b o,St b o->St' b o)(i:Ext St w w')(j:w.heap.size<=w'.heap.size)
  (c:∀s,∀g∈B s,w'.heap[g]? =w.heap[g]? ∧∀o,St' g o↔St g o) (e:∀b o,St' b o->b < w'.heap.size):HSim P nt bx base St' B hand σ a w':=
 {h with
  slot:=λs=>(h.slot s).mono f i (c s)<|λ_ _=>rfl
  range:=λs g d=>⟨(h.range s g d).1,BV (h.range s g d).2 j⟩
  hrange:=λg d=>⟨(h.hrange g d).1,BV (h.hrange g d).2 j⟩
  st:=e
  gl:=h.gl.of (λb c o=>f b o (c o)) (λb o c=>i b o (c o))}
def HSim.less(h:HSim P nt bx base St B hand σ a w){hand':zN}(d:hand'.Nodup)(c:∀g∈hand',g∈hand):HSim P nt bx base St B hand' σ a w:=
 {h with
  hnodup:=d
  hapart:=λs g b e=>h.hapart s g b<|c g e
  hrange:=λg b=>h.hrange g (c g b)}
def bK{c}(h:c.isVal=true):DC (dg c)=none∧Ex (dg c)=none:=by cases c<;>first|(constructor<;>rfl)|cases h
def WR{c}(h:c.isVal=true):DC c=none∧Ex c=none:=by cases c<;>first|(constructor<;>rfl)|cases h
def HSim.take(h:HSim P nt bx base St B hand σ a w)(s:Nat)(hv:(σ s).isVal=true):
  Ow P w St (σ s) (tm a s) (B s)∧HSim P nt bx base St (upd B s []) (hand++B s) (upd σ s<|dg<|σ s) a w:=by
 have ho:=(h.slot s).ow hv;have hnb:=bK hv;refine⟨ho,?_⟩
 have hB:∀q,∀g∈upd B s [] q,q≠s∧g∈B q:=by
  intro q g hg;by_cases e:q=s
  ·subst e;rw[upd_same]at hg;simp at hg
  ·rw[upd_ne _ _ e]at hg;exact⟨e,hg⟩
 exact
 {h with
  slot:=λq=>by
   by_cases e:q=s
   ·subst e;rw[upd_same,upd_same];exact(ho.deg hv).slot
   ·rw[upd_ne _ _ e,upd_ne _ _ e];exact h.slot q
  boxes:=λq cs e=>by
   by_cases eq:q=s
   ·subst eq;rw[upd_same,hnb.1]at e;cases e
   ·rw[upd_ne _ _ eq]at e;exact h.boxes q cs e
  crefs:=λq b e=>by
   by_cases eq:q=s
   ·subst eq;rw[upd_same,hnb.2]at e;cases e
   ·rw[upd_ne _ _ eq]at e;have⟨cs,hcs⟩:=h.crefs q b e;refine⟨cs,?_⟩;rw[upd_ne _ _ (λeb=>by subst eb;rw[(WR hv).1]at hcs;cases hcs)];exact hcs
  nodup:=λq=>by
   by_cases e:q=s
   ·subst e;rw[upd_same];exact AZ
   ·rw[upd_ne _ _ e];exact h.nodup q
  apart:=λq r hqr g hg hg'=>h.apart q r hqr g (hB q g hg).2 (hB r g hg').2
  hnodup:=AI.2 ⟨h.hnodup,h.nodup s,λx hx y hy e=>by subst e;exact h.hapart s x hy hx⟩
  hapart:=λq g hg hm=>by
   have⟨hq,hg⟩:=hB q g hg;rcases Al.1 hm with hm|hm
   ·exact h.hapart q g hg hm
   ·exact h.apart q s hq g hg hm
  range:=λq g hg=>h.range q g (hB q g hg).2
  hrange:=λg hg=>by
   rcases Al.1 hg with hg|hg
   ·exact h.hrange g hg
   ·exact h.range s g hg}
def HSim.put(h:HSim P nt bx base St B hand σ a w){d:Nat}(hd:d < nt)(hx:d∉bx){c:V}{v:Value}{bs:zN}(hc:CC P w St (tm a) c v bs)
  (hn:bs.Nodup) (hs:∀g∈bs,g∈hand) (hnb:DC c=none) (hcr:∀b,Ex c=some b->∃cs,DC (σ b)=some cs):
  HSim P nt bx base St (upd B d bs) [] (upd σ d c) (a.put (some d) v) w:=by
 have ht:=zx a d v (by rw[h.size];exact hd);have hbd:∀b cs,DC (σ b)=some cs->b≠d:=λb cs e eb=>hx<|eb ▸ h.boxes b cs e
 have hbox:∀b,(∃cs,DC (σ b)=some cs)->∃cs,DC (upd σ d c b)=some cs:=λb ⟨cs,e⟩=>⟨cs,by rw[upd_ne _ _ (hbd b cs e)];exact e⟩
 refine
 {size:=by rw[size_put];exact h.size
  defers:=by rw[fc];exact h.defers
  slot:=λq=>by
   rw[ht];by_cases e:q=d
   ·subst e;rw[upd_same,upd_same,upd_same];exact hc.mono (λ_ _ h=>h) (λ_ _ _=>rfl) (λ_ _=>⟨rfl,λ_=>Ea⟩)<|λb eb=>upd_ne _ _ (by have⟨cs,e⟩:=hcr b eb;exact hbd b cs e)
   ·rw[upd_ne _ _ e,upd_ne _ _ e,upd_ne _ _ e];exact(h.slot q).mono (λ_ _ h=>h) (λ_ _ _=>rfl) (λ_ _=>⟨rfl,λ_=>Ea⟩)<|λb eb=>upd_ne _ _ (by have⟨cs,e⟩:=h.crefs q b eb;exact hbd b cs e)
  boxes:=λq cs e=>by
   by_cases eq:q=d
   ·subst eq;rw[upd_same,hnb]at e;cases e
   ·rw[upd_ne _ _ eq]at e;exact h.boxes q cs e
  crefs:=λq b e=>by
   by_cases eq:q=d
   ·subst eq;rw[upd_same]at e;exact hbox b<|hcr b e
   ·rw[upd_ne _ _ eq]at e;exact hbox b<|h.crefs q b e
  nodup:=λq=>by
   by_cases e:q=d
   ·subst e;rw[upd_same];exact hn
   ·rw[upd_ne _ _ e];exact h.nodup q
  apart:=λq r hqr g hg hg'=>by
   by_cases e:q=d
   ·subst e;rw[upd_same]at hg;rw[upd_ne _ _ (Ne.symm hqr)]at hg';exact h.hapart r g hg'<|hs g hg
   ·rw[upd_ne _ _ e]at hg;by_cases e':r=d
    ·subst e';rw[upd_same]at hg';exact h.hapart q g hg<|hs g hg'
    ·rw[upd_ne _ _ e']at hg';exact h.apart q r hqr g hg hg'
  hnodup:=AZ
  hapart:=λ_ _ _=>by simp
  range:=λq g hg=>by
   by_cases e:q=d
   ·subst e;rw[upd_same]at hg;exact h.hrange g<|hs g hg
   ·rw[upd_ne _ _ e]at hg;exact h.range q g hg
  hrange:=nF
  st:=h.st
  gl:=h.gl
  pin:=λv0 e=>by have hp:=h.pin v0 e;rw[ht,upd_ne _ _ (show v0.1≠d from λe0=>hx (e0 ▸ hp.2.1))];exact hp}
def HSim.gA(h:HSim P nt bx base St B hand σ a w){d:Nat}(hd:d < nt)(hx:d∈bx)(hd0:SQ+d∉bx)(hold:DC (σ d)=none){c:V}{v:Value}{bs:zN}(hc:CC P w St (tm a) c v bs)
  (hn:bs.Nodup) (hs:∀g∈bs,g∈hand) (hrf:Ex c=none):HSim P nt bx base St (upd B d bs) [] (upd σ d c) (a.put (some d) v) w:=by
 have ht:=zx a d v (by rw[h.size];exact hd);have hbd:∀b cs,DC (σ b)=some cs->b≠d:=λb cs e eb=>by subst eb;rw[hold]at e;cases e
 have hbox:∀b,(∃cs,DC (σ b)=some cs)->∃cs',DC (upd σ d c b)=some cs':=λb ⟨cs',e⟩=>⟨cs',by rw[upd_ne _ _ (hbd b cs' e)];exact e⟩
 refine
 {size:=by rw[size_put];exact h.size
  defers:=by rw[fc];exact h.defers
  slot:=λq=>by
   rw[ht];by_cases e:q=d
   ·subst e;rw[upd_same,upd_same,upd_same];exact hc.mono (λ_ _ h=>h) (λ_ _ _=>rfl) (λ_ _=>⟨rfl,λ_=>Ea⟩) (λb eb=>by rw[hrf]at eb;cases eb)
   ·rw[upd_ne _ _ e,upd_ne _ _ e,upd_ne _ _ e];exact(h.slot q).mono (λ_ _ h=>h) (λ_ _ _=>rfl) (λ_ _=>⟨rfl,λ_=>Ea⟩)<|λb eb=>upd_ne _ _ (by have⟨cs,e⟩:=h.crefs q b eb;exact hbd b cs e)
  boxes:=λq cs e=>by
   by_cases eq:q=d
   ·subst eq;exact hx
   ·rw[upd_ne _ _ eq]at e;exact h.boxes q cs e
  crefs:=λq b e=>by
   by_cases eq:q=d
   ·subst eq;rw[upd_same,hrf]at e;cases e
   ·rw[upd_ne _ _ eq]at e;exact hbox b<|h.crefs q b e
  nodup:=λq=>by
   by_cases e:q=d
   ·subst e;rw[upd_same];exact hn
   ·rw[upd_ne _ _ e];exact h.nodup q
  apart:=λq r hqr g hg hg'=>by
   by_cases e:q=d
   ·subst e;rw[upd_same]at hg;rw[upd_ne _ _ (Ne.symm hqr)]at hg';exact h.hapart r g hg'<|hs g hg
   ·rw[upd_ne _ _ e]at hg;by_cases e':r=d
    ·subst e';rw[upd_same]at hg';exact h.hapart q g hg<|hs g hg'
    ·rw[upd_ne _ _ e']at hg';exact h.apart q r hqr g hg hg'
  hnodup:=AZ
  hapart:=λ_ _ _=>by simp
  range:=λq g hg=>by
   by_cases e:q=d
   ·subst e;rw[upd_same]at hg;exact h.hrange g<|hs g hg
   ·rw[upd_ne _ _ e]at hg;exact h.range q g hg
  hrange:=nF
  st:=h.st
  gl:=h.gl
  pin:=λv0 e=>by have hp:=h.pin v0 e;rw[ht,upd_ne _ _ (show v0.1≠d from λe0=>hd0 (e0 ▸ hp.2.2))];exact hp}
def HSim.Aiw(h:HSim P nt bx base St B hand σ a w){s:Nat}{cs cs':List V}{c':V}(t:DC (σ s)=some cs)(i:DC c'=some cs'){bs:zN}{hand':zN}(A:CC P w St (tm a) c' (tm a s) bs)
  (C:bs.Nodup) (u:∀g∈bs,g∈B s∨g∈hand) (v:hand'.Nodup) (m:∀g∈hand',g∈B s∨g∈hand) (x:∀g∈bs,g∉hand'):
  HSim P nt bx base St (upd B s bs) hand' (upd σ s c') a w:=by
 have y:Ex c'=none:=by cases c'<;>first|rfl|cases i
 have n:∀b,(∃cs,DC (σ b)=some cs)->∃o,DC (upd σ s c' b)=some o:=λb ⟨cs,e⟩=>by
  by_cases z:b=s
  ·subst z;exact⟨cs',by rw[upd_same];exact i⟩
  ·exact⟨cs,by rw[upd_ne _ _ z];exact e⟩
 have f:∀q,q≠s->∀g∈B q,¬(g∈B s∨g∈hand):=λq D g c j=>by
  rcases j with j|j
  ·exact h.apart q s D g c j
  ·exact h.hapart q g c j
 refine
 {h with
  slot:=λq=>by
   by_cases e:q=s
   ·subst e;rw[upd_same,upd_same];exact A
   ·rw[upd_ne _ _ e,upd_ne _ _ e];exact h.slot q
  boxes:=λq cs e=>by
   by_cases p:q=s
   ·subst p;exact h.boxes _ _ t
   ·rw[upd_ne _ _ p]at e;exact h.boxes q cs e
  crefs:=λq b e=>by
   by_cases p:q=s
   ·subst p;rw[upd_same,y]at e;cases e
   ·rw[upd_ne _ _ p]at e;exact n b<|h.crefs q b e
  nodup:=λq=>by
   by_cases e:q=s
   ·subst e;rw[upd_same];exact C
   ·rw[upd_ne _ _ e];exact h.nodup q
  apart:=λq r k g c d=>by
   by_cases e:q=s
   ·subst e;rw[upd_same]at c;rw[upd_ne _ _ (Ne.symm k)]at d;exact f r (Ne.symm k) g d<|u g c
   ·rw[upd_ne _ _ e]at c;by_cases e':r=s
    ·subst e';rw[upd_same]at d;exact f q e g c<|u g d
    ·rw[upd_ne _ _ e']at d;exact h.apart q r k g c d
  hnodup:=v
  hapart:=λq g c j=>by
   by_cases e:q=s
   ·subst e;rw[upd_same]at c;exact x g c j
   ·rw[upd_ne _ _ e]at c;exact f q e g c<|m g j
  range:=λq g c=>by
   by_cases e:q=s
   ·subst e;rw[upd_same]at c;rcases u g c with l|l
    ·exact h.range _ g l
    ·exact h.hrange g l
   ·rw[upd_ne _ _ e]at c;exact h.range q g c
  hrange:=λg c=>by
   rcases m g c with l|l
   ·exact h.range _ g l
   ·exact h.hrange g l}
def HSim.fresh(h:HSim P nt bx base St B hand σ a w){bs:zN}(d:bs.Nodup)(f:∀g∈bs,¬base g∧g < w.heap.size)(i:∀s,∀g∈B s,g∉bs)(j:∀g∈hand,g∉bs):
  HSim P nt bx base St B (hand++bs) σ a w:=
 {h with
  hnodup:=AI.2 ⟨h.hnodup,d,λx k y l e=>by subst e;exact j x k l⟩
  hapart:=λs g b c=>by
   rcases Al.1 c with c|c
   ·exact h.hapart s g b c
   ·exact i s g b c
  hrange:=λg b=>by
   rcases Al.1 b with b|b
   ·exact h.hrange g b
   ·exact f g b}
end
end
section
inductive TyD where
 |sc (z:V)
 |st (size:Nat) (zero:List V) (fields:List (Nat×Nat))
 |sl (e:TypeId) (es eb:Nat) (ez:List V)
abbrev Tb:=TypeId->Option TyD
def TyD.size:TyD->Nat
 |.sc _=>1
 |.st n _ _=>n
 |.sl .. =>1
def TyD.bp:TyD->Bool
 |.st .. =>true
 |_=>false
def TyD.two:TyD->Bool
 |.st 2 [.int _ _,.int _ _] [(0,1),(1,1)]=>true
 |_=>false
def ZL(P:Program)(zs:List V)(us:List Value):Prop:=∀w a,Bx P w a zs us []
def N8(P:Program)(t:TypeId):TyD->Prop
 |.sc z=>∃i zv d,P.info? t=some i∧i.size=1∧i.zero=some zv∧ZL P [z] [zv]∧P.underlying t=some d∧(match z with|.int k _=>d=.int k|.bool _=>d=.bool|.str _=>d=.string|.tok _=>(∃ps rs v,d=.func ps rs v)|_=>False)
 |.st size zero fields=>∃i arr fs,P.info? t=some i∧i.size=size∧i.zero=some (.agg arr)∧ZL P zero arr.toList∧P.underlying t=some (.struct fs)∧fs.toList.map (λf=>(f.offset,Wl P f.type))=fields∧(∀f∈fields,0 < f.2)∧((TyD.st size zero fields).two=true->P.stoodInHeld t=false∧P.eqGuardType P.depth t=false∧∀f∈fs.toList,f.name≠ "_" ∧∃k,P.underlying f.type=some (.int k))
 |.sl e es eb ez=>∃i j zv,P.info? t=some i∧i.size=1∧i.zero=some (.slice none 0 0)∧P.underlying t=some (.slice e)∧P.info? e=some j∧j.zero=some zv∧j.size=es∧j.bytes=eb∧ZL P ez zv.cells.toList∧ez.length=es∧0 < es∧0 < eb∧eb<=128
def LB(P:Program)(tb:Tb):Prop:=∀t d,tb t=some d->N8 P t d
def cV:Value->V
 |.int k n=>.int k n
 |.bool b=>.bool b
 |.string s=>if s.data.toList.length<=lim then .str s.data.toList else .undef
 |.slice none 0 0=>.dat 0 []
 |_=>.undef
def CP(σ:PS):Operand->V
 |.tmp t=>σ t
 |.const v=>cV v
 |.func f=>.fn f
 |_=>.undef
def eq2:List V->List V->Bool
 |[.int _ a,.int _ b],[.int _ c,.int _ d]=>a==c&&b==d
 |_,_=>false
def AcF(d:Option TyD):List V->List V->Prop
 |[.int k _,.int l _],[.int a _,.int b _]=>k=a∧l=b∧d.elim false TyD.two=true
 |_,_=>False
def oT:BinOp->V->V->V
 |.shl,.int k a,.int _ b=>.int k<|k.wrap<|a * 2 ^ (min b.toNat k.bits)
 |.shr,.int k a,.int _ b=>.int k<|a.fdiv<|2 ^ (min b.toNat k.bits)
 |.add,.int k a,.int _ b=>.int k<|k.wrap<|a+b
 |.sub,.int k a,.int _ b=>.int k<|k.wrap<|a - b
 |.mul,.int k a,.int _ b=>.int k<|k.wrap<|a * b
 |.quo,.int k a,.int _ b=>.int k<|k.wrap<|a.tdiv b
 |.rem,.int k a,.int _ b=>.int k<|a.tmod b
 |.and,.int k a,.int _ b=>.int k<|k.wrap (BitVec.ofInt k.bits a&&& BitVec.ofInt k.bits b).toNat
 |.or,.int k a,.int _ b=>.int k<|k.wrap (BitVec.ofInt k.bits a ||| BitVec.ofInt k.bits b).toNat
 |.xor,.int k a,.int _ b=>.int k<|k.wrap (BitVec.ofInt k.bits a ^^^ BitVec.ofInt k.bits b).toNat
 |.andNot,.int k a,.int _ b=>.int k<|k.wrap (BitVec.ofInt k.bits a&&& ~~~BitVec.ofInt k.bits b).toNat
 |.eql,.int _ a,.int _ b=>.bool<|a==b
 |.neq,.int _ a,.int _ b=>.bool<|a !=b
 |.lss,.int _ a,.int _ b=>.bool<|decide (a < b)
 |.leq,.int _ a,.int _ b=>.bool<|decide (a<=b)
 |.gtr,.int _ a,.int _ b=>.bool<|decide (b < a)
 |.geq,.int _ a,.int _ b=>.bool<|decide (b<=a)
 |.add,.str s,.str t=>.str<|s++t
 |.eql,.str s,.str t=>.bool<|s==t
 |.neq,.str s,.str t=>.bool (!(s==t))
 |.lss,.str s,.str t=>.bool<|Op.bytesLess s t
 |.leq,.str s,.str t=>.bool<|Op.bytesLess s t || s==t
 |.gtr,.str s,.str t=>.bool (!(Op.bytesLess s t || s==t))
 |.geq,.str s,.str t=>.bool (!Op.bytesLess s t)
 |.eql,.bool a,.bool b=>.bool<|a==b
 |.neq,.bool a,.bool b=>.bool (!(a==b))
 |.eql,.agg a,.agg b=>.bool<|eq2 a b
 |.neq,.agg a,.agg b=>.bool (!eq2 a b)
 |_,_,_=>.undef
def ka(d:Option TyD):BinOp->V->V->Prop
 |.shl,.int _ _,.int _ b=>0<=b
 |.shr,.int _ _,.int _ b=>0<=b
 |.quo,.int k _,.int c b=>k=c∧b≠0
 |.rem,.int k _,.int c b=>k=c∧b≠0
 |.add,.str s,.str t=>s.length+t.length<=lim
 |_,.int k _,.int c _=>k=c
 |.eql,.str _,.str _=>True
 |.neq,.str _,.str _=>True
 |.lss,.str _,.str _=>True
 |.leq,.str _,.str _=>True
 |.gtr,.str _,.str _=>True
 |.geq,.str _,.str _=>True
 |.eql,.bool _,.bool _=>d=some (.sc<|.bool false)
 |.neq,.bool _,.bool _=>d=some (.sc<|.bool false)
 |.eql,.agg a,.agg b=>AcF d a b
 |.neq,.agg a,.agg b=>AcF d a b
 |_,_,_=>False
def unV:UnOp->V->V
 |.not,.bool b=>.bool (!b)
 |.neg,.int k n=>.int k<|k.wrap<|0 - n
 |_,_=>.undef
def unC:UnOp->V->Prop
 |.not,.bool _=>True
 |.neg,.int _ _=>True
 |_,_=>False
section
variable {P:Program}{w:World}{St:Nat->Nat->Prop}{t:Nat->Value}
def Ik{k n v bs}(h:CC P w St t (.int k n) v bs):v=.int k n:=h.2
def Sh{b v bs}(h:CC P w St t (.bool b) v bs):v=.bool b:=h.2
def SU{s v bs}(h:CC P w St t (.str s) v bs):v=.string ⟨s.toArray⟩∧s.length<=maxLen:=h.2
def Sc(k:IntKind)(n:Int):CC P w St t (.int k n) (.int k n) []:=⟨rfl,rfl⟩
def Ys(b:Bool):CC P w St t (.bool b) (.bool b) []:=⟨rfl,rfl⟩
def pH{s}(h:s.length<=maxLen):CC P w St t (.str s) (.string ⟨s.toArray⟩) []:=⟨rfl,rfl,h⟩
def o9{ty}(a:P.underlying ty=some .bool)(n:Nat)(x y:Bool):(Op.equalIn (n+1) ty (.bool x)<|.bool y).run P w=.ok (x==y) w:=by simp[Op.equalIn,BO a]
def oz{k l a b v bs}(h:CC P w St t (.agg [.int k a,.int l b]) v bs):v=.agg #[.int k a,.int l b]:=by obtain⟨us,rfl,u,c,b1,b2,rfl,_,_,d,i,e,j,m,rfl,_,_,f,g⟩:=h;obtain⟨rfl,_⟩:=g;rw[d.2,f.2]
def AcG{ty d}(s:N8 P ty d)(h:d.two=true)(x y:Operand){k l:IntKind}(a b a' b':Int):
  (do eqGuard .eql ty x y (.agg #[.int k a,.int l b]) (.agg #[.int k a',.int l b']);binOp .eql ty (.agg #[.int k a,.int l b]) (.agg #[.int k a',.int l b']):Sem Value).run P w=.ok (.bool<|a==a'&&b==b') w∧
  (do eqGuard .neq ty x y (.agg #[.int k a,.int l b]) (.agg #[.int k a',.int l b']);binOp .neq ty (.agg #[.int k a,.int l b]) (.agg #[.int k a',.int l b']):Sem Value).run P w=.ok (.bool (!(a==a'&&b==b'))) w:=by
 have e:=h;unfold TyD.two at e;split at e
 ·have⟨i,z,A,_,_,_,_,j,c,_,B⟩:=s;have⟨C,m,n⟩:=B h;have⟨L⟩:=A;rcases L with _|⟨f,_|⟨g,_|⟨Q,L⟩⟩⟩
  ·simp at c
  ·simp at c
  rotate_left
  ·simp at c
  simp only[AP,DE,Dk,Ch,and_true]at c;have⟨⟨D,_⟩,F,_⟩:=c;have⟨G,H,o⟩:=n f nF;have⟨I,J,p⟩:=n g nF;have q:P.fieldsOf ty= #[f,g]:=by unfold Program.fieldsOf;rw[j]
  have r:(Op.equalIn 10000 ty (.agg #[.int k a,.int l b])<|.agg #[.int k a',.int l b']).run P w=.ok (a==a'&&b==b') w:=by
   rw[run_equalIn_struct w 9999 ty _ _ (by rw[q];exact j) C,q];have K:∀(u v:Value),(part f.type #[u,v] f.offset).run P w=.ok u w:=λu v=>by rw[D];simp[part,Go.isAgg,BO o]
   have M:∀(u v:Value),(part g.type #[u,v] g.offset).run P w=.ok v w:=λu v=>by rw[F];simp[part,Go.isAgg,BO p]
   have N:=λx y=>run_equalIn_int (P:=P) w 9998 f.type k H x y o
   have O:=λx y=>run_equalIn_int (P:=P) w 9998 g.type l J x y p
   simp only[Op.eqFields,ne_eq,G,I,not_false_eq_true,FB,BC,K,Bg,N];cases a==a' with
   |false=>simp
   |true=>simp only[Au,CD,Ed,BC,M,Bg,O];cases b==b'<;>simp
  constructor
  ·rw[BC,run_eqGuard_agg w .eql ty x y _ _ m,Bg,run_eql_struct,r];rfl
  ·rw[BC,run_eqGuard_agg w .neq ty x y _ _ m,Bg,run_neq_struct,r];rfl
 ·cases e
def Aaf(op:BinOp)(ty:TypeId)(x y:Operand){h c2:V}{i j:Value}{b1 b2:zN}(e:CC P w St t h i b1)(f:CC P w St t c2 j b2){d:Option TyD}(m:∀x,d=some x->N8 P ty x)(c:ka d op h c2):
  ∃v,(do eqGuard op ty x y i j;binOp op ty i j:Sem Value).run P w=.ok v w∧CC P w St t (oT op h c2) v []:=by
 unfold ka at c;split at c
 case h_1|h_2=>obtain rfl:=Ik e;obtain rfl:=Ik f;exact⟨_,by simp[eqGuard,binOp,Op.shift,Int.not_lt.2 c],Sc _ _⟩
 case h_3|h_4=>obtain rfl:=Ik e;obtain rfl:=Ik f;obtain⟨rfl,o⟩:=c;exact⟨_,by simp[eqGuard,binOp,Op.intDiv,o],Sc _ _⟩
 case h_5 s u=>
  obtain⟨rfl,p⟩:=SU e;obtain⟨rfl,q⟩:=SU f;refine⟨.string ⟨(s++u).toArray⟩,?_,pH<|by rw[An];exact Bk c⟩;have r:¬IntKind.i64.max < ((s.length+u.length:Nat):Int):=by have:IntKind.i64.max=9223372036854775807:=rfl;unfold lim at *;rw[this];exact Int.not_lt.2 aG
  have e:(⟨s.toArray⟩:ByteArray)++⟨u.toArray⟩=⟨(s++u).toArray⟩:=by apply P6;simp
  simp only[eqGuard,binOp,Op.stringOp,ByteArray.size,LL,e,GT.gt,r,Ed];simp
 case h_6=>
  obtain rfl:=Ik e;obtain rfl:=Ik f;subst c
  cases op<;>first
   |(refine⟨_,?_,Sc _ _⟩;simp only[eqGuard,binOp,Op.intArith,ne_eq,Pw,Ed,BC];rfl)
   |(refine⟨_,?_,Sc _ _⟩;simp only[eqGuard,binOp,ne_eq,Pw,Ed,BC];rfl)
   |(refine⟨_,?_,Ys _⟩;simp only[eqGuard,binOp,Op.intCmp,ne_eq,Pw,Ed,BC];rfl)
   |(exfalso;simp_all;done)
 case h_7|h_8|h_9|h_10|h_11|h_12=>obtain⟨rfl,p⟩:=SU e;obtain⟨rfl,q⟩:=SU f;exact⟨_,by simp[eqGuard,binOp,Op.stringOp,ByteArray.toList_eq],Ys _⟩
 case h_13|h_14=>
  obtain rfl:=Sh e;obtain rfl:=Sh f;refine⟨_,?_,Ys _⟩;have⟨_,_,_,_,_,_,_,z,n⟩:=m _ c;simp only at n;subst n;have A:∀x y:Bool,(Op.equal ty (.bool x)<|.bool y).run P w=.ok (x==y) w:=λx y=>o9 z 9999 x y
  simp[eqGuard,binOp,A]
 case h_15|h_16=>
  unfold AcF at c;split at c
  case h_2=>exact c.elim
  rename_i k a l b B a' C b';obtain⟨rfl,rfl,g⟩:=c;cases d with
  |none=>cases g
  |some d=>
   obtain rfl:=oz e;obtain rfl:=oz f;refine⟨_,?_,Ys _⟩;have:=AcG (P:=P) (w:=w) (m _ rfl) g x y (k:=k) (l:=l) a b a' b'
   first|exact this.1|exact this.2
 case h_17=>exact c.elim
def AiN(op:UnOp){c:V}{v:Value}{b:zN}(h:CC P w St t c v b)(a:unC op c):∃u,(Op.unary op v).run P w=.ok u w∧CC P w St t (unV op c) u []:=by
 unfold unC at a;split at a
 ·obtain rfl:=Sh h;exact⟨_,rfl,Ys _⟩
 ·obtain rfl:=Ik h;exact⟨_,rfl,Sc _ _⟩
 ·exact a.elim
def add_plain(b o j:Nat):(⟨b,o,none⟩:Addr).add j=⟨b,o+j,none⟩:=by
 unfold Addr.add;split
 ·rename_i h;subst h;rfl
 ·rfl
end
def nf(g:Nat):V:=match lays.lookup g with
 |some l=>.adr (l.map λx=>.int x.1 x.2) 0
 |none=>.undef
def xk{g cs off}(h:nf g=.adr cs off):∃l,(g,l)∈lays∧cs=(l.map λx=>.int x.1 x.2)∧off=0:=by
 unfold nf at h;split at h
 ·rename_i l a;injection h with h1 h2
  refine⟨l,?_,h1.symm,h2.symm⟩
  have:∀L:List (Nat×List (IntKind×Int)),L.lookup g=some l->(g,l)∈L:=by
   intro L;induction L with
   |nil=>intro h;cases h
   |cons p L b=>
    intro h;rw[List.lookup_cons]at h;split at h
    ·rename_i e;injection h with h
     have e:=DL e;subst h;subst e;exact BD ..
    ·exact AW _<|b h
  exact this _ a
 ·cases h
def Uw{g}:(∀s o,nf g≠.cref s o)∧(∀u,nf g≠.tok u)∧(∀cs,nf g≠.box cs):=by unfold nf;split<;>exact⟨λ_ _ h=>(by cases h),λ_ h=>(by cases h),λ_ h=>(by cases h)⟩
def Oa(σ:PS):Operand->V
 |.tmp s=>match σ s with
  |.box _=>.cref s 0
  |c=>c
 |.global g=>nf g
 |_=>.undef
def getCells(d:TyD)(cs:List V)(off:Nat):V:=
 match d with
 |.st n _ _=>.agg<|((cs.drop off).take n).map WS
 |_=>match cs[off]? with
  |some c=>WS c
  |none=>.undef
def ax(d:TyD)(σ:PS):V->V
 |.cref s off=>match DC (σ s)with
  |some cs=>getCells d cs off
  |none=>.undef
 |.adr cs off=>getCells d cs off
 |_=>.undef
def XH(d:TyD)(σ:PS):V->Prop
 |.cref s off=>match DC (σ s)with
  |some cs=>off+d.size<=cs.length
  |none=>False
 |.adr cs off=>off+d.size<=cs.length
 |_=>False
section
variable {P:Program}{w:World}{St:Nat->Nat->Prop}{t:Nat->Value}
def N8.isAgg{ty d}(h:N8 P ty d):(isAgg ty).run P w=.ok d.bp w:=by
 cases d with
 |sc z=>have⟨i,zv,d,_,_,_,_,a,b⟩:=h;cases z<;>simp only at b<;>first|exact b.elim|(subst b;simp[Go.isAgg,BO a,TyD.bp];done)|(obtain⟨ps,rs,v,rfl⟩:=b;simp[Go.isAgg,BO a,TyD.bp])
 |st n z f=>have⟨i,c,g,_,_,_,_,a,_⟩:=h;simp[Go.isAgg,BO a,TyD.bp]
 |sl e es k l=>have⟨i,j,zv,_,_,_,a,_⟩:=h;simp[Go.isAgg,BO a,TyD.bp]
def N8.sizeOf{ty d}(h:N8 P ty d):(Go.sizeOf ty).run P w=.ok d.size w:=by
 cases d with
 |sc z=>have⟨i,zv,d,hi,a,_⟩:=h;simp[Go.sizeOf,typeInfo,hi,a,TyD.size]
 |st n z f=>have⟨i,b,c,hi,a,_⟩:=h;simp[Go.sizeOf,typeInfo,hi,a,TyD.size]
 |sl e es g k=>have⟨i,j,zv,hi,a,_⟩:=h;simp[Go.sizeOf,typeInfo,hi,a,TyD.size]
def S5.take:∀{cs:List V}{us:List Value}(n:Nat),S5 w St cs us->S5 w St (cs.take n) (us.take n)
 |[],_,n,h=>by rw[show _=[]from h];simp[S5]
 |c::cs,_,0,h=>by simp[S5]
 |c::cs,_,n+1,⟨u,a,e,b,d⟩=>by rw[e,Eu,Eu];exact⟨u,a.take n,rfl,b,S5.take n d⟩
def S5.drop:∀{cs:List V}{us:List Value}(n:Nat),S5 w St cs us->S5 w St (cs.drop n) (us.drop n)
 |[],_,n,h=>by rw[show _=[]from h];simp[S5]
 |c::cs,_,0,h=>by simpa using h
 |c::cs,_,n+1,⟨u,a,e,d,b⟩=>by rw[e,NE,NE];exact S5.drop n b
def k9{ty d}(m:N8 P ty d){cs:List V}{off:Nat}{us:List Value}{b o:Nat}(h:S5 w St (cs.drop off) us)(r:∀(j:Nat) (u:Value),us[j]? =some u->w.cell? ⟨b,o+j,none⟩=some u)(s:off+d.size<=cs.length)(A:0 < d.size∨d.bp=true):
  ∃v,(Instr.loadAt ty<|.pointer<|some ⟨b,o,none⟩).run P w=.ok v w∧Ow P w St (getCells d cs off) v []:=by
 have i:=h.length;rw[BH]at i;cases a:d.bp with
 |true=>
  cases d with
  |sc z=>cases a
  |sl e es B C=>cases a
  |st n z f=>
   simp only[TyD.size]at s;have x:=S5.take n h;refine⟨.agg (us.take n).toArray,?_,us.take n,rfl,Bx.x7 _ x⟩
   have h:=Ji (P:=P) (w:=w) ⟨b,o,none⟩ (us.take n) (λj v l=>by
    rw[add_plain];rw[EE]at l;split at l
    ·exact r j v l
    ·cases l)
   rw[AH,CS aG]at h;simp[Instr.loadAt,Instr.sureAddr,loadVar,m.isAgg,m.sizeOf,TyD.bp,TyD.size,h]
 |false=>
  have D:d.size=1:=by cases d<;>first|rfl|cases a
  have k:off < cs.length:=aG;have y:(cs.drop off)[0]? =some cs[off]:=by simp[k]
  have⟨u,p,q⟩:=h.get 0 _ y;have g:=r 0 u p;refine⟨u,?_,?_⟩
  ·have c:w.cell? ⟨b,o,none⟩=some u:=by simpa using g
   simp[Instr.loadAt,Instr.sureAddr,loadVar,m.isAgg,a,c]
  ·have:getCells d cs off=WS cs[off]:=by cases d<;>first|(simp only[getCells,Af k];done)|cases a
   rw[this];exact Ow.AiF q.dp
end
section
variable {P:Program}{nt:Nat}{base:Bs}{bx:zN}{St:Nat->Nat->Prop}{B:Nat->zN}{hand:zN}{σ:PS}{a:Act}{w:World}
def Acr{t c v bs cs}(e:DC c=some cs)(h:CC P w St t c v bs):
  ∃g T b,∃d:Array Value,Z5 v=some g∧w.heap[g]? =some (.cells d T (0,0))∧Bx P w St cs d.toList b∧bs=g::b∧∀o,¬St g o:=by
 cases c<;>simp only[DC,Av,reduceCtorEq]at e
 ·subst e;obtain⟨g,T,b,d,rfl,f,i,j,k⟩:=h;exact⟨g,T,b,d,rfl,f,i,j,k⟩
 ·subst e;obtain⟨g,b,d,rfl,f,i,j,k,_⟩:=h;exact⟨g,_,b,d,rfl,f,i,j,k⟩
def gX{t w' c v bs bs'' cs cs' arr arr' T g}(j:DC c=some cs)(h:CC P w St t c v bs)(i:Z5 v=some g)(n:w.heap[g]? =some (.cells arr T (0,0)))
  (d:w'.heap[g]? =some (.cells arr' T (0,0))) (m:Bx P w' St cs' arr'.toList bs'') (e:∀o,¬St g o) (p:cs'.length=cs.length):CC P w' St t (WY c cs') v (g::bs''):=by
 cases c<;>simp only[DC,Av,reduceCtorEq]at j
 ·subst j;obtain⟨k,y,l,f,rfl,b,q,r,s⟩:=h;simp only[Z5,Av]at i;subst i;exact⟨k,T,bs'',arr',rfl,d,m,rfl,e⟩
 ·subst j;obtain⟨k,l,f,rfl,b,q,r,s,u,x⟩:=h;simp only[Z5,Av]at i;subst i;rw[n]at b;injection b with b
  injection b with _ b
  subst b;exact⟨k,bs'',arr',rfl,d,m,rfl,e,u,p.trans x⟩
def T7(h:HSim P nt bx base St B hand σ a w){x:Operand}{s off:Nat}{cs:List V}(e:Oa σ x=.cref s off)(t:DC (σ s)=some cs):
  ∃g T b,∃c:Array Value,a.eval x=.pointer (some ⟨g,off,none⟩)∧Z5 (tm a s)=some g∧w.heap[g]? =some (.cells c T (0,0))∧Bx P w St cs c.toList b∧B s=g::b∧∀o,¬St g o:=by
 have⟨g,T,b,c,i,l,m,n,p⟩:=Acr t<|h.slot s;cases x with
 |tmp q=>
  simp only[Oa]at e;split at e
  ·rename_i cs' k;simp only[V.cref.injEq]at e;obtain⟨rfl,rfl⟩:=e;have j:=h.slot q;rw[k]at j;have⟨r,_,_,_,d,_⟩:=j;rw[d]at i;simp only[Z5,Av]at i;subst i;exact⟨r,T,b,c,d,by rw[d];rfl,l,m,n,p⟩
  ·have j:=h.slot q;rw[e]at j;have⟨_,r,d,e2⟩:=j;rw[i]at d;injection d with d
   subst d;exact⟨g,T,b,c,e2,i,l,m,n,p⟩
 |const v=>cases e
 |global g=>exact absurd e<|Uw.1 _ _
 |func f=>cases e
def jV(h:HSim P nt bx base St B hand σ a w){x:Operand}{cs:List V}{off:Nat}(e:Oa σ x=.adr cs off):∃b o,a.eval x=.pointer (some ⟨b,o,none⟩)∧El w St b o (cs.drop off):=by
 cases x with
 |tmp q=>
  simp only[Oa]at e;split at e
  ·cases e
  ·have d:=h.slot q;rw[e]at d;have⟨_,b,o,m,e2⟩:=d;exact⟨b,o,m,e2⟩
 |const v=>cases e
 |global g=>
  obtain⟨l,n,rfl,rfl⟩:=xk e;have⟨p,r⟩:=h.gl _ n;refine⟨g,0,rfl,?_⟩;rw[Mj]
  have c:∀(l:List (IntKind×Int)) (j:Nat),(∀i x,l[i]? =some x->w.cell? ⟨g,j+i,none⟩=some (.int x.1 x.2))->El w St g j (l.map λx=>.int x.1 x.2):=by
   intro l;induction l with
   |nil=>intro j _;exact trivial
   |cons x l s=>exactλj k=>⟨⟨p j,_,by simpa using k 0 x rfl,rfl⟩,s (j+1) λi y t=>by have:=k (i+1) y (by rw[Dm];exact t);rw[show j+1+i=j+(i+1)by omega];exact this⟩
  exact c l 0 (λi x u=>by rw[C9];exact r i x u)
 |func f=>cases e
def xz(h:HSim P nt bx base St B hand σ a w){ty:TypeId}{d:TyD}(hd:N8 P ty d){x:Operand}(hc:XH d σ (Oa σ x)):
  ∃v,(Instr.loadAt ty<|a.eval x).run P w=.ok v w∧Ow P w St (ax d σ<|Oa σ x) v []:=by
 have hp:0 < d.size∨d.bp=true:=by cases d<;>first|exact .inl (Nat.zero_lt_one)|exact .inr rfl
 cases e:Oa σ x with
 |cref s off=>
  rw[e]at hc;simp only[XH]at hc;simp only[ax];split at hc
  ·rename_i cs hs;have⟨g,T,bs',arr,h1,h2,h3,h4,h5,h6⟩:=T7 h e hs;rw[h1];refine k9 hd (us:=arr.toList.drop off) ((Bx.rdL cs h4).drop off) (λj u hu=>?_) hc hp;rw[Ej]at hu;simpa[World.cell?,h3]using hu
  ·exact hc.elim
 |adr cs off=>rw[e]at hc;simp only[XH]at hc;simp only[ax];have⟨b,o,h1,h2⟩:=jV h e;have⟨us,h3,h4⟩:=h2.list;rw[h1];exact k9 hd h3 h4 hc hp
 |_=>rw[e]at hc;exact hc.elim
def tokF(off:Nat):Value->V
 |.pointer (some ⟨g,o,none⟩)=>.tok<|.pointer<|some ⟨g,o+off,none⟩
 |_=>.undef
def tz(off:Nat)(u:Value):DC (tokF off u)=none∧Ex (tokF off u)=none:=by unfold tokF;split<;>exact⟨rfl,rfl⟩
def Abb:Value->Bool
 |.pointer (some ⟨_,_,none⟩)=>true
 |_=>false
def faV(off:Nat):V->V
 |.tok u=>tokF off u
 |.cref s o=>.cref s<|o+off
 |.adr cs o=>.adr cs<|o+off
 |_=>.undef
def faC(σ:PS):V->Prop
 |.cref s _=>∃cs,DC (σ s)=some cs
 |.adr _ _=>True
 |.tok u=>Abb u=true
 |_=>False
def sf{u}(h:Abb u=true):∃g o,u=.pointer (some ⟨g,o,none⟩):=by
 unfold Abb at h;split at h
 ·exact⟨_,_,rfl⟩
 ·cases h
def aW(h:HSim P nt bx base St B hand σ a w){x:Operand}{u:Value}(b:Oa σ x=.tok u):a.eval x=u:=by
 cases x with
 |tmp s=>
  have c:σ s=.tok u:=by
   unfold Oa at b;simp only at b;split at b
   ·cases b
   ·exact b
  have:=h.slot s;rw[c]at this;exact this.2.1
 |global g=>exact absurd b<|Uw.2.1 _
 |_=>cases b
def t6(h:HSim P nt bx base St B hand σ a w){ty:TypeId}{n:Nat}{z:List V}{D:List (Nat×Nat)}(H:N8 P ty (.st n z D)){f off F:Nat}(r:D[f]? =some (off,F)){x:Operand}(l:faC σ (Oa σ x)):
  ∃v,(Instr.fieldAt ty (a.eval x) f).run P w=.ok v w∧CC P w St (tm a) (faV off<|Oa σ x) v []:=by
 have⟨i,I,J,_,_,_,_,K,t,m,_⟩:=H
 have L:∃d,J[f]? =some d∧d.offset=off∧Wl P d.type=F:=by
  rw[<-t,BS]at r;have⟨d,p,k⟩:=Cj.1 r;injection k with k h3
  exact⟨d,by simpa using p,k,h3⟩
 obtain⟨d,y,rfl,A⟩:=L;have q:0 < Wl P d.type:=by rw[A];exact m _<|B4 r
 obtain⟨j,M,C⟩:∃j,P.info? d.type=some j∧j.size≠0:=by
  unfold Wl at q;cases hi:P.info? d.type with
  |none=>rw[hi]at q;simp at q
  |some j=>rw[hi]at q;exact⟨j,rfl,by simp at q;omega⟩
 have c:∀b o,(Instr.fieldAt ty (.pointer<|some ⟨b,o,none⟩) f).run P w=.ok (.pointer<|some ⟨b,o+d.offset,none⟩) w:=by intro b o;simp[Instr.fieldAt,BO K,y,Instr.sureAddr,fieldPlace,Go.sizeOf,typeInfo,M,C,add_plain]
 cases e:Oa σ x with
 |cref s o=>rw[e]at l;have⟨cs,N⟩:=l;have⟨g,T,O,G,p,k,_⟩:=T7 h e N;rw[p];exact⟨_,c _ _,rfl,g,k,rfl⟩
 |adr cs o=>have⟨b,Q,p,k⟩:=jV h e;rw[p];refine⟨_,c _ _,rfl,b,_,rfl,?_⟩;rw[<-J5];exact k.drop _
 |tok u=>rw[e]at l;obtain⟨g,o,rfl⟩:=sf l;rw[aW h e];exact⟨_,c _ _,rfl,rfl,rfl⟩
 |_=>rw[e]at l;exact l.elim
def tu{e n cs v bs t c}(b:c=.own e n cs∨c=.dat n cs)(h:CC P w St t c v bs):Rd w St (.dat n cs) v:=by
 rcases b with rfl|rfl
 ·have:=Ow.rd (.own e n cs) (show Ow P w St (.own e n cs) v bs from h) rfl;simp only[Rd]at this⊢;exact this
 ·exact Ow.rd (.dat n cs) (show Ow P w St (.dat n cs) v bs from h) rfl
def Mz:V->Option (Nat×List V)
 |.own _ n cs=>some (n,cs)
 |.dat n cs=>some (n,cs)
 |.arg n cs=>some (n,cs)
 |.pin _ n cs=>some (n,cs)
 |_=>none
def Ny{t c v bs n cs}(hc:Mz c=some (n,cs))(h:CC P w St t c v bs):Rd w St (.dat n cs) v:=by
 cases c<;>simp only[Mz,Av,Ch,reduceCtorEq]at hc
 ·obtain⟨rfl,rfl⟩:=hc;exact tu (.inl rfl) h
 ·obtain⟨rfl,rfl⟩:=hc;exact tu (e:=0) (.inr rfl) h
 ·obtain⟨rfl,rfl⟩:=hc;have⟨_,hn,A,c,e,hc,h,h0⟩:=h;exact⟨hn,A,c,e,hc,λhp=>let⟨b,off,ea,_,hr⟩:=h hp;⟨b,off,ea,hr⟩,h0⟩
 ·obtain⟨rfl,rfl⟩:=hc;exact h.2.2
def Ti:V->Option Int
 |.int _ n=>some n
 |_=>none
def aT{t c v bs i}(b:Ti c=some i)(h:CC P w St t c v bs):∃k,v=.int k i:=by
 cases c<;>simp only[Ti,Av,reduceCtorEq]at b
 subst b;exact⟨_,Ik h⟩
def iaV(es:Nat)(x i:V):V:=match Mz x,Ti i with
 |some (_,cs),some i=>.adr (cs.drop<|i.toNat * es) 0
 |_,_=>.undef
def iaC(x i:V):Prop:=match Mz x,Ti i with
 |some (n,_),some i=>0<=i∧i < n
 |_,_=>False
def pr{t ty e es eb ez}(m:N8 P ty (.sl e es eb ez)){c d:V}{v u:Value}{b1 b2:zN}(o:CC P w St t c v b1)(p:CC P w St t d u b2)(g:iaC c d):
  ∃r,(Instr.indexAt ty v u).run P w=.ok r w∧CC P w St t (iaV es c d) r []:=by
 have⟨i,j,zv,_,_,_,q,s,_,h,_⟩:=m;unfold iaC at g;split at g
 ·rename_i n cs x l hi;obtain⟨C,A,y,rfl,_,f,_⟩:=Ny l o;obtain⟨k,rfl⟩:=aT hi p;obtain⟨b,off,rfl,z⟩:=f aG;simp only[iaV,l,hi];refine⟨.pointer<|some ⟨b,off+x.toNat * es,none⟩,?_,rfl,b,_,rfl,by rw[Mj];exact z.drop _⟩;simp[Instr.indexAt,asIntOf,BO q,g,Go.sizeOf,typeInfo,s,h,add_plain]
 ·exact g.elim
end
def uM(x i:V):V:=match x,Ti i with
 |.str s,some i=>match s[i.toNat]? with
  |some b=>.int .u8 b.toNat
  |none=>.undef
 |_,_=>.undef
def uK(x i:V):Prop:=match x,Ti i with
 |.str s,some i=>0<=i∧i < s.length
 |_,_=>False
def lenV:V->V
 |.str s=>.int .i64 s.length
 |c=>match Mz c with
  |some (n,_)=>.int .i64 n
  |none=>.undef
def ug(d:Option TyD):V->Prop
 |.str _=>d=some (.sc<|.str [])
 |c=>match Mz c,d with
  |some _,some (.sl ..)=>True
  |_,_=>False
def Xf(a:Int):Option V->Option Int
 |none=>some a
 |some c=>Ti c
def aI:V->Nat->List V->V
 |.arg _ _,n,cs=>.arg n cs
 |_,n,cs=>.dat n cs
def WX(d:Option TyD)(x:V)(lo hi:Option V):V:=match d,x with
 |some (.sc _),.str s=>match Xf 0 lo,Xf s.length hi with
  |some l,some h=>.str<|(s.take h.toNat).drop l.toNat
  |_,_=>.undef
 |some (.sl _ es _ _),x=>match Mz x with
  |some (n,cs)=>match Xf 0 lo,Xf n hi with
   |some l,some h=>aI x (h.toNat - l.toNat)<|(cs.take<|h.toNat * es).drop<|l.toNat * es
   |_,_=>.undef
  |none=>.undef
 |_,_=>.undef
def da(d:Option TyD)(x:V)(lo hi:Option V):Prop:=match d,x with
 |some (.sc<|.str []),.str s=>match Xf 0 lo,Xf s.length hi with
  |some l,some h=>0<=l∧l<=h∧h<=s.length
  |_,_=>False
 |some (.sl _ es _ _),x=>match Mz x with
  |some (n,cs)=>match Xf 0 lo,Xf n hi with
   |some l,some h=>0<=l∧l<=h∧h<=n∧cs.length=n * es
   |_,_=>False
  |none=>False
 |_,_=>False
def mp:V->UInt8
 |.int _ n=>UInt8.ofNat n.toNat
 |_=>0
def Afo:V->Bool
 |.int .u8 _=>true
 |_=>false
def iW(dd:Option TyD)(x:V):V:=match dd,x with
 |some (.sc<|.int k _),.int _ n=>.int k<|k.wrap n
 |some (.sc<|.str _),x=>match Mz x with
  |some (_,cs)=>.str<|cs.map mp
  |none=>.undef
 |_,_=>.undef
def eZ(tb:Tb)(a b:TypeId)(x:V):Prop:=match tb a,tb b,x with
 |some _,some (.sc<|.int _ _),.int _ _=>True
 |some (.sl e _ _ _),some (.sc<|.str _),x=>match Mz x,tb e with
  |some (n,cs),some (.sc<|.int .u8 _)=>cs.length=n∧cs.all Afo=true
  |_,_=>False
 |_,_,_=>False
def mxV(c:Bool)(x y:V):V:=match x,y with
 |.int k a,.int _ b=>.int k (if c then(if a < b then b else a)else(if b < a then b else a))
 |_,_=>.undef
def mxC(x y:V):Prop:=match x,y with
 |.int _ _,.int _ _=>True
 |_,_=>False
section
variable {P:Program}{w:World}{St:Nat->Nat->Prop}{t:Nat->Value}
def N8.und{ty d}(h:N8 P ty d):∃u,P.underlying ty=some u:=by
 cases d with
 |sc z=>have⟨i,zv,d,_,_,_,_,a,c⟩:=h;exact⟨_,a⟩
 |st n z f=>have⟨i,b,g,_,_,_,_,a,_⟩:=h;exact⟨_,a⟩
 |sl e es k l=>have⟨i,j,zv,_,_,_,a,_⟩:=h;exact⟨_,a⟩
def N8.str{ty s}(h:N8 P ty (.sc<|.str s)):P.underlying ty=some .string:=by have⟨i,zv,d,_,_,_,_,b,a⟩:=h;rw[b];simp only at a;rw[a]
def N8.int{ty k n}(h:N8 P ty (.sc<|.int k n)):P.underlying ty=some (.int k):=by have⟨i,zv,d,_,_,_,_,b,a⟩:=h;rw[b];simp only at a;rw[a]
def size_bytes(s:zU):(⟨s.toArray⟩:ByteArray).size=s.length:=by show s.toArray.size=_;simp
def iA(s:zU)(i:Nat):(⟨s.toArray⟩:ByteArray)[i]? =s[i]?:=by
 simp only[getElem?,decidableGetElem?];by_cases h:i < s.length
 ·have a:i < (⟨s.toArray⟩:ByteArray).size:=by simpa[ByteArray.size]using h
  rw[dif_pos a];show some (s.toArray[i]'_)=_;simp[h]
 ·have a:¬i < (⟨s.toArray⟩:ByteArray).size:=by simpa[ByteArray.size]using h
  rw[dif_neg a];simp[h]
def Acp{ty s0}(e:N8 P ty (.sc<|.str s0)){c d:V}{v u:Value}{b1 b2:zN}(f:CC P w St t c v b1)(g:CC P w St t d u b2)(b:uK c d):
  ∃r,(Instr.index ty v u).run P w=.ok r w∧CC P w St t (uM c d) r []:=by
 have h:=e.str;unfold uK at b;split at b
 ·rename_i s i hi;obtain⟨rfl,_⟩:=SU f;obtain⟨k,rfl⟩:=aT hi g;have a:i.toNat < s.length:=aG;have j:(⟨s.toArray⟩:ByteArray)[i.toNat]? =some s[i.toNat]:=by rw[iA,Af a]
  simp only[uM,hi,Af a];exact⟨_,by simp[Instr.index,asIntOf,BO h,b.1,j],Sc _ _⟩
 ·exact b.elim
def Abe{ty rt d}(h:∀x,d=some x->N8 P ty x){c:V}{v:Value}{b1:zN}(k:CC P w St t c v b1)(b:ug d c):
  ∃r,(Builtin.len_ #[ty] rt #[v]).run P w=.ok r w∧CC P w St t (lenV c) r []:=by
 unfold ug at b;split at b
 ·rename_i s;obtain⟨rfl,_⟩:=SU k;refine⟨.int .i64 s.length,?_,Sc _ _⟩;have g:=BO (h _ b).str;simp only[Builtin.len_,BC,List.getElem?_toArray,CB,g,Bg,size_bytes,BW,goInt]
 ·rename_i l;cases a:Mz c with
  |none=>rw[a]at b;exact b.elim
  |some z=>
   have⟨n,cs⟩:=z;rw[a]at b;cases d with
   |none=>exact b.elim
   |some d=>
    cases d with
    |sc z=>exact b.elim
    |st n z f=>exact b.elim
    |sl e es o p=>
     obtain⟨_,A,m,rfl,_⟩:=Ny a k;have⟨i,j,zv,_,_,_,g,_⟩:=h _ rfl;have:lenV c=.int .i64 n:=by cases c<;>first|(simp only[Mz,Av,Ch]at a;simp[lenV,Mz,a.1];done)|cases a
     rw[this];exact⟨_,by simp[Builtin.len_,BO g,goInt],Sc _ _⟩
def iz(s:zU)(l h:Nat):(⟨s.toArray⟩:ByteArray).extract l h=⟨((s.take h).drop l).toArray⟩:=by apply P6;rw[ByteArray.data_extract];apply Array.ext';rw[Array.toList_extract,List.extract_eq_take_drop,O4]
def BdR(a i:Int)(v:Option Value):Prop:=(v=none∧i=a)∨∃k,v=some (.int k i)
def qE{lo vl l dflt}(a:Xf dflt lo=some l)(d:∀c,lo=some c->∃v b,vl=some v∧CC P w St t c v b)(f:lo=none->vl=none):BdR dflt l vl:=by
 cases lo with
 |none=>simp only[Xf,Av]at a;exact .inl ⟨f rfl,a.symm⟩
 |some c=>have⟨v,b,e,h⟩:=d c rfl;obtain⟨k,rfl⟩:=aT a h;exact .inr ⟨k,e⟩
def eS(c:Bool)(b a:Nat){l h:Int}{vl vh:Option Value}(f:BdR 0 l vl)(g:BdR b h vh)(d:0<=l)(i:l<=h)(e:h<=a):
  (Instr.sliceBounds c b a vl vh none).run P w=.ok (l.toNat,h.toNat,a) w:=by
 rcases f with⟨rfl,rfl⟩|⟨k,rfl⟩<;>rcases g with⟨rfl,rfl⟩|⟨j,rfl⟩
 ·simp[Instr.sliceBounds]
 ·simp[Instr.sliceBounds,Instr.sliceBound,asIntOf,show 0<=h by omega,e]
 ·simp[Instr.sliceBounds,Instr.sliceBound,asIntOf,d,i]
 ·simp[Instr.sliceBounds,Instr.sliceBound,asIntOf,show 0<=h by omega,e,d];intro m;omega
def yt{ty d}(hd:∀x,d=some x->N8 P ty x){c:V}{v:Value}{b1:zN}(h1:CC P w St t c v b1){lo hi:Option V}{vl vh:Option Value}
  (hlv:∀c,lo=some c->∃v b,vl=some v∧CC P w St t c v b) (hln:lo=none->vl=none) (hhv:∀c,hi=some c->∃v b,vh=some v∧CC P w St t c v b) (hhn:hi=none->vh=none) (hc:da d c lo hi):
  ∃r,(Instr.sliceAt ty v vl vh none).run P w=.ok r w∧CC P w St t (WX d c lo hi) r []:=by
 unfold da at hc;split at hc
 ·rename_i s;obtain⟨rfl,hs⟩:=SU h1;have hu:=BO (P:=P) (hd _ rfl).str w;split at hc
  ·rename_i l h hl hh;have e:=eS (P:=P) (w:=w) false s.length s.length (qE hl hlv hln) (qE hh hhv hhn) hc.1 hc.2.1 hc.2.2;refine⟨.string ⟨((s.take h.toNat).drop l.toNat).toArray⟩,?_,?_⟩
   ·simp[Instr.sliceAt,Instr.slice,hu,size_bytes,e,iz]
   ·simp only[WX,hl,hh];exact pH (by simp;omega)
  ·exact hc.elim
 ·rename_i e es eb ez;cases hsl:Mz c with
  |none=>rw[hsl]at hc;exact hc.elim
  |some z=>
   have⟨n,cs⟩:=z;rw[hsl]at hc;simp only at hc;split at hc
   ·rename_i l h hl hh;obtain⟨hn,A,cap,rfl,hcap,hrow,h0⟩:=Ny hsl h1;have⟨i,j,zv,_,_,_,hu,hj,_,hes,_⟩:=hd _ rfl;have hbd:=eS (P:=P) (w:=w) true n cap (qE hl hlv hln) (qE hh hhv hhn) hc.1 hc.2.1 aG;have hv:WX (some<|.sl e es eb ez) c lo hi=aI c (h.toNat - l.toNat) ((cs.take<|h.toNat * es).drop<|l.toNat * es):=by cases c<;>simp only[Mz,Av,Ch,reduceCtorEq]at hsl<;>simp[WX,Mz,hsl,hl,hh]
    rw[hv];refine⟨.slice (if cap=l.toNat then A else A.map (·.add (l.toNat * es))) (h.toNat - l.toNat)<|cap - l.toNat,?_,?_⟩
    ·simp[Instr.sliceAt,Instr.slice,BO hu,hbd,Go.sizeOf,typeInfo,hj,hes]
    ·have hdat:Rd w St (.dat (h.toNat - l.toNat)<|(cs.take<|h.toNat * es).drop<|l.toNat * es) (.slice (if cap=l.toNat then A else A.map (·.add (l.toNat * es))) (h.toNat - l.toNat)<|cap - l.toNat):=by
      refine⟨Bm aG hn,_,_,rfl,aG,λhp=>?_,λhz=>?_⟩
      ·obtain⟨b,off,rfl,hr⟩:=hrow aG;refine⟨b,off+l.toNat * es,by rw[AA aG];simp[add_plain],?_⟩;rw[O4];exact(hr.drop _).take _
      ·have:l.toNat=h.toNat:=aG;rw[this];simp
     have hother:aI c (h.toNat - l.toNat) ((cs.take<|h.toNat * es).drop<|l.toNat * es)=.dat (h.toNat - l.toNat) ((cs.take<|h.toNat * es).drop<|l.toNat * es)∨c=.arg n cs:=by cases c<;>simp only[Mz,Av,Ch,reduceCtorEq]at hsl<;>first|exact .inl rfl|(obtain⟨rfl,rfl⟩:=hsl;exact .inr rfl)
     rcases hother with ho|rfl
     ·rw[ho];exact⟨rfl,hdat⟩
     ·have⟨_,_,A',cap',e1,_,hrow',_⟩:=h1;injection e1 with e1 _ _
      subst e1;refine⟨rfl,Bm aG hn,_,_,rfl,aG,λhp=>?_,λhz=>?_⟩
      ·obtain⟨b,off,rfl,hw,hr⟩:=hrow' aG;refine⟨b,off+l.toNat * es,by rw[AA aG];simp[add_plain],λhne=>hw<|λh0=>hne<|by rw[h0];simp,?_⟩;rw[O4];exact(hr.drop _).take _
      ·have:l.toNat=h.toNat:=aG;rw[this];simp
   ·exact hc.elim
 ·exact hc.elim
def Abj{rt ts c d v u b1 b2}(b:CC P w St t c v b1)(e:CC P w St t d u b2)(a:mxC c d):
  ∃r,(Builtin.max_ ts rt #[v,u]).run P w=.ok r w∧CC P w St t (mxV true c d) r []:=by
 unfold mxC at a;split at a
 ·obtain rfl:=Ik b;obtain rfl:=Ik e;refine⟨_,?_,Sc _ _⟩;simp[Builtin.max_,Builtin.max2]
 ·exact a.elim
def Abk{rt ts c d v u b1 b2}(b:CC P w St t c v b1)(e:CC P w St t d u b2)(a:mxC c d):
  ∃r,(Builtin.min_ ts rt #[v,u]).run P w=.ok r w∧CC P w St t (mxV false c d) r []:=by
 unfold mxC at a;split at a
 ·obtain rfl:=Ik b;obtain rfl:=Ik e;refine⟨_,?_,Sc _ _⟩;simp[Builtin.min_,Builtin.min2]
 ·exact a.elim
def foldl_push(a:zI):∀(s:ByteArray),a.foldl (λr n=>r.push<|UInt8.ofNat n.toNat) s=⟨(s.data.toList++a.map λn=>UInt8.ofNat n.toNat).toArray⟩:=by
 induction a with
 |nil=>intro s;apply P6;simp
 |cons n a b=>intro s;rw[Ca,b];apply P6;simp[ByteArray.push]
def u8s:∀{cs:List V},cs.all Afo=true->∃a:zI,cs=a.map (V.int .u8)
 |[],_=>⟨[],rfl⟩
 |c::cs,h=>by
  simp only[BM,Ab]at h;obtain⟨a,rfl⟩:=u8s h.2;have b:=h.1;cases c with
  |int k n=>cases k<;>first|exact⟨n::a,rfl⟩|cases b
  |_=>cases b
def yI:∀{a:zI}{us:List Value},S5 w St (a.map<|V.int .u8) us->us=a.map (Value.int .u8)
 |[],_,h=>h
 |n::a,_,⟨u,b,e,c,d⟩=>by rw[e,AP,yI d,show u=.int .u8 n from c]
def e8{z c n cs}(h:Mz c=some (n,cs)):iW (some<|.sc<|.str z) c=.str (cs.map mp):=by cases c<;>first|(simp only[iW,h];done)|cases h
def vV{tb}(a:LB P tb){u l:TypeId}{c:V}{v:Value}{b1:zN}(H:CC P w St t c v b1)(s:eZ tb u l c):
  ∃r,(convert u l v).run P w=.ok r w∧CC P w St t (iW (tb l) c) r []:=by
 unfold eZ at s;split at s
 ·rename_i ds k z Q n C x;obtain rfl:=Ik H;have⟨us,m⟩:=(a _ _ C).und;have o:=(a _ _ x).int;rw[x];exact⟨_,by simp[convert,BO m,BO o,Conv.intToInt],Sc _ _⟩
 ·rename_i e es R S z C x;split at s
  ·rename_i n cs T y K;have⟨d,B⟩:=s;obtain⟨f,rfl⟩:=u8s B;have⟨i,j,zv,_,_,_,m,_⟩:=a _ _ C;have o:=(a _ _ x).str;have D:=(a _ _ K).int;have F:=Ny y H;obtain⟨U,A,p,rfl,I,g,W⟩:=F;rw[Ai]at d;rw[x,e8 y];have G:(f.map<|V.int .u8).map mp=f.map λn=>UInt8.ofNat n.toNat:=by simp[D4,Function.comp_def,mp]
   rw[G];refine⟨.string ⟨(f.map λn=>UInt8.ofNat n.toNat).toArray⟩,?_,pH<|by simp;omega⟩
   have q:(Conv.bytesToString<|.slice A n p).run P w=.ok (.string ⟨(f.map λn=>UInt8.ofNat n.toNat).toArray⟩) w:=by
    cases A with
    |none=>
     have X:n=0:=by
      rcases DI n with h|h
      ·exact h
      ·have⟨_,_,h,_⟩:=g h;cases h
     have:f=[]:=BG aG;subst this;rfl
    |some L=>
     rcases DI n with h|h
     ·subst h;have:f=[]:=BG d;subst this;have:=run_bytesToString (P:=P) w L 0 p [] (by simp[loadCells,loadCellsFrom]);rw[this,foldl_push];simp
     ·have⟨b,off,e,M⟩:=g h;injection e with e
      subst e;have⟨us,N,O⟩:=M.list;have:=yI N;subst this;have J:=Ji (P:=P) (w:=w) ⟨b,off,none⟩ (f.map<|Value.int .u8) (λj v G=>by rw[add_plain];exact O j v G);rw[Ai,d]at J;rw[run_bytesToString (P:=P) w _ n p f J,foldl_push];simp
   simp only[convert,BC,BO m,BO o,Bg,BO D,q]
  ·exact s.elim
 ·exact s.elim
end
def AcB(es:Nat):Value->Option Int->V
 |.slice (some ⟨g,0,none⟩) _ _,some i=>.tok<|.pointer<|some ⟨g,i.toNat * es,none⟩
 |_,_=>.undef
def tA:Value->Option Int->Prop
 |.slice (some ⟨_,0,none⟩) n _,some i=>0<=i∧i < n
 |_,_=>False
def iaS(σ:PS)(es:Nat)(x i:V):V:=match x with
 |.tok u=>AcB es u<|Ti i
 |.same s=>match σ s,Ti i with
  |.uni _ _ _,some i=>.cref s<|i.toNat * es
  |_,_=>.undef
 |x=>iaV es x i
def fH(σ:PS)(x i:V):Prop:=match x with
 |.tok u=>tA u<|Ti i
 |.same s=>match σ s,Ti i with
  |.uni _ n _,some i=>0<=i∧i < n
  |_,_=>False
 |x=>iaC x i
def iC(σ:PS)(x:V):V:=match x with
 |.same s=>match σ s with
  |.uni _ n _=>.int .i64 n
  |_=>.undef
 |x=>lenV x
def Za(d:Option TyD)(σ:PS)(x:V):Prop:=match x with
 |.same s=>match σ s,d with
  |.uni _ _ _,some (.sl ..)=>True
  |_,_=>False
 |x=>ug d x
def mvV(σ:PS):Operand->V
 |.tmp s=>match σ s with
  |.uni _ _ _=>.same s
  |.same b=>.same b
  |.box _=>.cref s 0
  |.cref b o=>.cref b o
  |c=>dg c
 |x=>dg<|CP σ x
def mvC(σ:PS):Operand->Prop
 |.tmp s=>match σ s with
  |.uni _ _ _=>True
  |.same _=>True
  |.box _=>True
  |.cref _ _=>True
  |c=>c.isVal=true
 |x=>(CP σ x).isVal=true
section
variable {P:Program}{nt:Nat}{base:Bs}{bx:zN}{St:Nat->Nat->Prop}{B:Nat->zN}{hand:zN}{σ:PS}{a:Act}{w:World}
def nY(h:HSim P nt bx base St B hand σ a w){s q:Nat}{e:TypeId}{n:Nat}{cs:List V}(f:σ q=.same s)(i:σ s=.uni e n cs):∃g,tm a q=.slice (some ⟨g,0,none⟩) n n∧tm a s=.slice (some ⟨g,0,none⟩) n n:=by have b:=h.slot q;have c:=h.slot s;rw[f]at b;rw[i]at c;have⟨g,_,_,d,_⟩:=c;exact⟨g,by rw[b.2,d],d⟩
def pu(h:HSim P nt bx base St B hand σ a w){ty e:TypeId}{es c:Nat}{f:List V}(l:N8 P ty (.sl e es c f)){s q:Nat}{m:TypeId}{n:Nat}{cs:List V}(o:σ q=.same s)(p:σ s=.uni m n cs){d:V}{i:Int}{u:Value}{b2:zN}(hi:Ti d=some i)(t:CC P w St (tm a) d u b2)(v:0<=i∧i < n):
  ∃r,(Instr.indexAt ty (tm a q) u).run P w=.ok r w∧CC P w St (tm a) (.cref s<|i.toNat * es) r []:=by
 have⟨A,j,zv,_,_,_,x,y,_,b,_⟩:=l;have⟨g,z,e2⟩:=nY h o p;obtain⟨k,rfl⟩:=aT hi t;rw[z];refine⟨.pointer<|some ⟨g,0+i.toNat * es,none⟩,?_,rfl,g,by rw[e2];rfl,by rw[C9]⟩;simp[Instr.indexAt,asIntOf,BO x,v,Go.sizeOf,typeInfo,y,b,add_plain]
def pw{ty e es eb ez}(f:N8 P ty (.sl e es eb ez)){x:Value}{d:V}{u:Value}{b2:zN}{t:Nat->Value}(h:CC P w St t d u b2)(b:tA x (Ti d)):
  ∃r,(Instr.indexAt ty x u).run P w=.ok r w∧(∃q,AcB es x (Ti d)=.tok q)∧CC P w St t (AcB es x<|Ti d) r []:=by
 have⟨p,j,zv,_,_,_,l,o,_,c,_⟩:=f;unfold tA at b;split at b
 ·rename_i g n m i hi;obtain⟨k,rfl⟩:=aT hi h;rw[hi];refine⟨.pointer<|some ⟨g,0+i.toNat * es,none⟩,?_,⟨_,rfl⟩,rfl,nF,rfl⟩;simp[Instr.indexAt,asIntOf,BO l,b,Go.sizeOf,typeInfo,o,c,add_plain]
 ·exact b.elim
def xl(h:HSim P nt bx base St B hand σ a w){ty rt e:TypeId}{es b:Nat}{c:List V}(d:N8 P ty (.sl e es b c)){s q:Nat}{f:TypeId}{n:Nat}{cs:List V}(i:σ q=.same s)(k:σ s=.uni f n cs):
  ∃r,(Builtin.len_ #[ty] rt #[tm a q]).run P w=.ok r w∧CC P w St (tm a) (.int .i64 n) r []:=by
 have⟨p,j,zv,_,_,_,l,t,_,m,_⟩:=d;have⟨g,o,e2⟩:=nY h i k;rw[o];exact⟨_,by simp[Builtin.len_,BO l,goInt],Sc _ _⟩
end
end
section
def Rr(σ:PS):Callee->List Operand->V
 |.builtin .len,[x]=>iC σ<|CP σ x
 |.builtin .max,[x,y]=>mxV true (CP σ x)<|CP σ y
 |.builtin .min,[x,y]=>mxV false (CP σ x)<|CP σ y
 |_,_=>.undef
def UB(tb:Tb)(σ:PS):Callee->List Operand->List TypeId->Prop
 |.builtin .len,[x],[t]=>Za (tb t) σ<|CP σ x
 |.builtin .max,[x,y],_=>mxC (CP σ x)<|CP σ y
 |.builtin .min,[x,y],_=>mxC (CP σ x)<|CP σ y
 |_,_,_=>False
def gw(σ:PS)(a b:Operand):V->V
 |.bool q=>if q then dg (CP σ a)else dg (CP σ b)
 |_=>.undef
def gv(σ:PS)(a b:Operand):V->Prop
 |.bool q=>if q then(CP σ a).isVal=true else(CP σ b).isVal=true
 |_=>False
def wr(d:Option TyD)(f:Nat)(x:V):V:=match d with
 |some (.st _ _ a)=>match a[f]? with
  |some (off,_)=>faV off x
  |none=>.undef
 |_=>.undef
def mJ(d:Option TyD)(f:Nat)(σ:PS)(x:V):Prop:=match d with
 |some (.st _ _ a)=>match a[f]? with
  |some _=>faC σ x
  |none=>False
 |_=>False
def pq(d:Option TyD)(σ:PS)(x i:V):V:=match d with
 |some (.sl _ es _ _)=>iaS σ es x i
 |_=>.undef
def pp(d:Option TyD)(σ:PS)(x i:V):Prop:=match d with
 |some (.sl ..)=>fH σ x i
 |_=>False
def Wx(d:Option TyD)(σ:PS)(x:V):V:=match d with
 |some d=>ax d σ x
 |none=>.undef
def Ww(d:Option TyD)(σ:PS)(x:V):Prop:=match d with
 |some d=>XH d σ x
 |none=>False
def pv(tb:Tb)(σ:PS):Op->V
 |.move x=>mvV σ x
 |.pick c a b=>gw σ a b<|CP σ c
 |.binOp op _ x y _=>oT op (CP σ x)<|CP σ y
 |.unOp op _ x=>unV op<|CP σ x
 |.convert _ d x=>iW (tb d)<|CP σ x
 |.load t x=>Wx (tb t) σ<|Oa σ x
 |.nilCheck x=>Oa σ x
 |.fieldAddr t x f=>wr (tb t) f<|Oa σ x
 |.indexAddr t x i=>pq (tb t) σ (CP σ x)<|CP σ i
 |.index _ x i=>uM (CP σ x)<|CP σ i
 |.slice t x lo hi none=>WX (tb t) (CP σ x) (lo.map<|CP σ)<|hi.map<|CP σ
 |.call c=>Rr σ c.callee c.args.toList
 |_=>.undef
def pc(tb:Tb)(σ:PS):Op->Prop
 |.move x=>mvC σ x
 |.pick c a b=>gv σ a b<|CP σ c
 |.binOp op t x y _=>ka (tb t) op (CP σ x)<|CP σ y
 |.unOp op _ x=>unC op<|CP σ x
 |.convert s d x=>eZ tb s d<|CP σ x
 |.load t x=>Ww (tb t) σ<|Oa σ x
 |.nilCheck x=>faC σ<|Oa σ x
 |.fieldAddr t x f=>mJ (tb t) f σ<|Oa σ x
 |.indexAddr t x i=>pp (tb t) σ (CP σ x)<|CP σ i
 |.index t x i=>tb t=some (.sc<|.str [])∧uK (CP σ x) (CP σ i)
 |.slice t x lo hi none=>da (tb t) (CP σ x) (lo.map<|CP σ)<|hi.map<|CP σ
 |.call c=>UB tb σ c.callee c.args.toList c.argTypes.toList
 |_=>False
section
variable {P:Program}{nt:Nat}{base:Bs}{bx:zN}{St:Nat->Nat->Prop}{B:Nat->zN}{hand:zN}{σ:PS}{a:Act}{w:World}
def kl(v:Value):CC P w St (tm a) (cV v) v []:=by
 unfold cV;split
 ·exact Sc _ _
 ·exact Ys _
 ·split
  ·rename_i s h;exact⟨rfl,by cases s;simp,Bk h⟩
  ·rfl
 ·exact⟨rfl,BF _,none,0,rfl,A5 _,λh=>absurd h aG,λ_=>rfl⟩
 ·rfl
def OB(h:HSim P nt bx base St B hand σ a w)(x:Operand):∃b,CC P w St (tm a) (CP σ x) (a.eval x) b:=by
 cases x with
 |tmp s=>exact⟨_,h.slot s⟩
 |const v=>exact⟨[],kl v⟩
 |global g=>exact⟨[],rfl⟩
 |func f=>exact⟨[],rfl,rfl⟩
def Ow.Ek{c v bs}(h:Ow P w St c v bs):DC c=none∧Ex c=none:=by cases c<;>first|exact⟨rfl,rfl⟩|exact h.elim
def Ow.SR{c v bs}(h:Ow P w St c v bs){p:Nat->Prop}:∀b,Ex c=some b->p b:=λb e=>by rw[h.Ek.2]at e;cases e
def Gives(P:Program)(w:World)(St:Nat->Nat->Prop)(σ:PS)(t:Nat->Value)(c:V)(v:Value)(bs:zN):Prop:=
 CC P w St t c v bs∧DC c=none∧∀b,Ex c=some b->∃cs,DC (σ b)=some cs
def Gives.ow{t c v bs}(h:Ow P w St c v bs):Gives P w St σ t c v bs:=⟨h.slot,h.Ek.1,h.SR⟩
def Gives.of{t c v bs}(h:CC P w St t c v bs)(b:c.isVal=true):Gives P w St σ t c v bs:=.ow<|h.ow b
def vC{op d c1 c2}(h:ka d op c1 c2):(oT op c1 c2).isVal=true:=by
 unfold ka at h;split at h<;>first|rfl|exact h.elim|skip
 cases op<;>first|rfl|(exfalso;simp_all;done)
def AcH{op c}(h:unC op c):(unV op c).isVal=true:=by unfold unC at h;split at h<;>first|rfl|exact h.elim
def uF{d c lo hi}(h:da d c lo hi):(WX d c lo hi).isVal=true:=by
 unfold da at h;split at h
 ·split at h
  ·rename_i e f;simp only[WX,e,f];rfl
  ·exact h.elim
 ·cases b:Mz c with
  |none=>rw[b]at h;exact h.elim
  |some z=>
   have⟨n,cs⟩:=z;rw[b]at h;simp only at h;split at h
   ·rename_i l q e f;cases c<;>simp only[Mz,Av,Ch,reduceCtorEq]at b<;>obtain⟨rfl,rfl⟩:=b<;>simp[WX,aI,Mz,e,f,V.isVal,V.isArg,V.D3]
   ·exact h.elim
 ·exact h.elim
def xm{d c}(h:ug d c):(lenV c).isVal=true:=by cases c<;>first|rfl|exact h.elim
def sC{b c d}(h:mxC c d):(mxV b c d).isVal=true:=by unfold mxC at h;split at h<;>first|rfl|exact h.elim
def pure_run{tb}(htb:LB P tb)(h:HSim P nt bx base St B hand σ a w)(o:Oper)(hc:pc tb σ o.op):
  ∃v,(execOp a.eval o).run P w=.ok (.value v) w∧Gives P w St σ (tm a) (pv tb σ o.op) v []:=by
 cases ho:o.op with
 |move x=>
  rw[ho]at hc;have⟨b,hx⟩:=OB h x;refine⟨a.eval x,by simp[execOp,ho],?_⟩;have hval:(CP σ x).isVal=true->Gives P w St σ (tm a) (dg<|CP σ x) (a.eval x) []:=λhc=>.ow<|(hx.ow hc).deg hc
  simp only[pc,pv]at *;cases x with
  |tmp s=>
   cases hs:σ s with
   |uni e n cs=>simp only[mvV,hs];exact⟨⟨rfl,rfl⟩,rfl,λb e=>by simp only[Ex,Av]at e;subst e;exact⟨cs,by rw[hs];rfl⟩⟩
   |same q=>simp only[mvV,hs];have h1:=h.slot s;rw[hs]at h1;exact⟨⟨rfl,h1.2⟩,rfl,λb e=>h.crefs s b<|by rw[hs];exact e⟩
   |box cs=>simp only[mvV,hs];have h1:=h.slot s;rw[hs]at h1;have⟨g,T,bs',arr,e1,_⟩:=h1;exact⟨⟨rfl,g,by rw[e1];rfl,e1⟩,rfl,λb e=>by simp only[Ex,Av]at e;subst e;exact⟨cs,by rw[hs];rfl⟩⟩
   |cref q o'=>simp only[mvV,hs];have h1:=h.slot s;rw[hs]at h1;exact⟨⟨rfl,h1.2⟩,rfl,λb e=>h.crefs s b<|by rw[hs];exact e⟩
   |_=>simp only[mvV,mvC,hs]at hc⊢;have:=hval (by show(σ s).isVal=true;rw[hs];exact hc);rw[show CP σ (.tmp s)=σ s from rfl,hs]at this;exact this
  |const v=>exact hval hc
  |global g=>exact hval hc
  |func f=>exact hval hc
 |pick c x y=>
  rw[ho]at hc;simp only[pc,pv]at *;have⟨b,hcc⟩:=OB h c;have⟨b1,hx⟩:=OB h x;have⟨b2,hy⟩:=OB h y;cases hq:CP σ c with
  |bool q=>
   rw[hq]at hc hcc;have e:=Sh hcc;cases q with
   |true=>exact⟨a.eval x,by simp[execOp,ho,e,asBool],.ow<|(hx.ow hc).deg hc⟩
   |false=>exact⟨a.eval y,by simp[execOp,ho,e,asBool],.ow<|(hy.ow hc).deg hc⟩
  |_=>rw[hq]at hc;exact hc.elim
 |binOp op t x y t'=>rw[ho]at hc;have⟨b1,hx⟩:=OB h x;have⟨b2,hy⟩:=OB h y;have⟨v,hr,hv⟩:=Aaf (ty:=t) (x:=x) (y:=y) op hx hy (λd e=>htb _ _ e) hc;refine⟨v,?_,.of hv<|vC hc⟩;simp only[execOp,ho,BC,hr,Bg,BW]
 |unOp op t x=>rw[ho]at hc;have⟨b1,hx⟩:=OB h x;have⟨v,hr,hv⟩:=AiN op hx hc;refine⟨v,?_,.of hv<|AcH hc⟩;simp only[execOp,ho,BC,hr,Bg,BW]
 |convert s d x=>
  rw[ho]at hc;have⟨b1,hx⟩:=OB h x;have⟨v,hr,hv⟩:=vV htb hx hc;refine⟨v,?_,.of hv ?_⟩
  ·simp only[execOp,ho,BC,hr,Bg,BW]
  ·simp only[pc,pv,eZ]at hc⊢;split at hc
   ·rename_i hs hd hx;rw[hd,hx];rfl
   ·rename_i hs hd;split at hc
    ·rename_i hsl _;rw[hd,e8 hsl];rfl
    ·exact hc.elim
   ·exact hc.elim
 |load t x=>
  rw[ho]at hc;simp only[pc,pv]at *;cases ht:tb t with
  |none=>rw[ht]at hc;exact hc.elim
  |some d=>rw[ht]at hc;have⟨v,hr,hv⟩:=xz h (htb _ _ ht) (x:=x) hc;refine⟨v,?_,.ow hv⟩;simp only[execOp,ho,BC,hr,Bg,BW]
 |nilCheck x=>
  rw[ho]at hc;simp only[pc,pv]at *;cases e:Oa σ x with
  |cref s o'=>
   rw[e]at hc;have⟨cs,hs⟩:=hc;have⟨g,T,bs',arr',h1,h2,_⟩:=T7 h e hs;refine⟨.pointer<|some ⟨g,o',none⟩,?_,⟨rfl,g,h2,rfl⟩,rfl,λb e=>?_⟩
   ·simp only[execOp,ho,h1];rfl
   ·simp only[Ex,Av]at e;subst e;exact⟨cs,hs⟩
  |adr cs o'=>have⟨b,o2,h1,h2⟩:=jV h e;refine⟨.pointer<|some ⟨b,o2,none⟩,?_,⟨rfl,b,o2,rfl,h2⟩,rfl,λb e=>by cases e⟩;simp only[execOp,ho,h1];rfl
  |tok u=>rw[e]at hc;obtain⟨g,o2,rfl⟩:=sf hc;have h1:=aW h e;refine⟨.pointer<|some ⟨g,o2,none⟩,?_,⟨rfl,rfl,rfl⟩,rfl,λb e=>by cases e⟩;simp only[execOp,ho,h1];rfl
  |_=>rw[e]at hc;exact hc.elim
 |fieldAddr t x f=>
  rw[ho]at hc;simp only[pc,pv]at *;cases ht:tb t with
  |none=>rw[ht]at hc;exact hc.elim
  |some d=>
   rw[ht]at hc;cases d with
   |sc z=>exact hc.elim
   |sl e es eb ez=>exact hc.elim
   |st n z fs=>
    simp only[mJ,wr]at *;cases hf:fs[f]? with
    |none=>rw[hf]at hc;exact hc.elim
    |some q=>
     have⟨off,sz⟩:=q;rw[hf]at hc;simp only at *;have⟨v,hr,hv⟩:=t6 h (htb _ _ ht) hf hc;refine⟨v,?_,hv,?_,?_⟩
     ·simp only[execOp,ho,BC,hr,Bg,BW]
     ·cases hx:Oa σ x with
      |tok u=>exact(tz off u).1
      |_=>rfl
     ·intro b e;cases hx:Oa σ x with
      |tok u=>rw[hx]at e;simp only[faV,(tz off u).2]at e;cases e
      |cref s o'=>rw[hx]at e hc;simp only[faV,Ex,Av]at e;subst e;exact hc
      |_=>rw[hx]at e;cases e
 |indexAddr t x i=>
  rw[ho]at hc;simp only[pc,pv]at *;have⟨b1,hx⟩:=OB h x;have⟨b2,hi⟩:=OB h i;cases ht:tb t with
  |none=>rw[ht]at hc;exact hc.elim
  |some d=>
   rw[ht]at hc;cases d with
   |sc z=>exact hc.elim
   |st n z fs=>exact hc.elim
   |sl e es eb ez=>
    simp only[pp,pq]at *;by_cases hsm:∃q,CP σ x=.same q
    ·have⟨q,hq⟩:=hsm;rw[hq]at hc⊢;simp only[fH,iaS]at hc⊢;cases x with
     |tmp p=>
      have hp:σ p=.same q:=hq;split at hc
      ·rename_i e' n cs ix hs hix;have⟨v,hr,hv⟩:=pu h (htb _ _ ht) hp hs hix hi hc;refine⟨v,?_,hv,rfl,λb e=>?_⟩
       ·have e1:a.eval (.tmp p)=tm a p:=rfl;simp only[execOp,ho,BC,e1,hr,Bg,BW]
       ·simp only[Ex,Av]at e;subst e;exact⟨cs,by rw[hs];rfl⟩
      ·exact hc.elim
     |const v=>exfalso;simp only[CP,cV]at hq;split at hq<;>(try split at hq)<;>cases hq
     |global g=>cases hq
     |func f=>cases hq
    by_cases htk:∃q,CP σ x=.tok q
    ·have⟨q,hq⟩:=htk;rw[hq]at hc hx⊢;simp only[fH,iaS]at hc⊢;have⟨v,hr,⟨q',hq'⟩,hv⟩:=pw (htb _ _ ht) hi hc;rw[hq']at hv⊢;refine⟨v,?_,hv,rfl,λb e=>by cases e⟩;have e1:a.eval x=q:=hx.2.1;simp only[execOp,ho,BC,e1,hr,Bg,BW]
    have h1:fH σ (CP σ x) (CP σ i)=iaC (CP σ x) (CP σ i):=by
     cases hx':CP σ x with
     |same q=>exact absurd ⟨q,hx'⟩ hsm
     |tok q=>exact absurd ⟨q,hx'⟩ htk
     |_=>rfl
    have h2:iaS σ es (CP σ x) (CP σ i)=iaV es (CP σ x) (CP σ i):=by
     cases hx':CP σ x with
     |same q=>exact absurd ⟨q,hx'⟩ hsm
     |tok q=>exact absurd ⟨q,hx'⟩ htk
     |_=>rfl
    rw[h1]at hc;rw[h2];have⟨v,hr,hv⟩:=pr (htb _ _ ht) hx hi hc
    have hia:∃cs n,iaV es (CP σ x) (CP σ i)=.adr cs n:=by
     unfold iaC at hc;split at hc
     ·rename_i n cs ix hs hi';exact⟨cs.drop<|ix.toNat * es,0,by simp only[iaV,hs,hi']⟩
     ·exact hc.elim
    refine⟨v,?_,hv,?_,?_⟩
    ·simp only[execOp,ho,BC,hr,Bg,BW]
    ·have⟨_,_,e'⟩:=hia;rw[e'];rfl
    ·intro b e;have⟨_,_,e'⟩:=hia;rw[e']at e;cases e
 |index t x i=>
  rw[ho]at hc;simp only[pc,pv]at *;have⟨b1,hx⟩:=OB h x;have⟨b2,hi⟩:=OB h i;have⟨v,hr,hv⟩:=Acp (htb _ _ hc.1) hx hi hc.2;refine⟨v,?_,.of hv ?_⟩
  ·simp only[execOp,ho,BC,hr,Bg,BW]
  ·have hc2:=hc.2;unfold uK at hc2;split at hc2
   ·rename_i s j hs hi';have:j.toNat < s.length:=aG;simp only[uM,hs,hi',Af this];rfl
   ·exact hc2.elim
 |slice t x lo hi mx=>
  rw[ho]at hc;cases mx with
  |some m=>exact hc.elim
  |none=>
   simp only[pc,pv]at *;have⟨b1,hx⟩:=OB h x
   have⟨v,hr,hv⟩:=yt (ty:=t) (d:=tb t) (λd e=>htb _ _ e) hx (lo:=lo.map<|CP σ) (hi:=hi.map<|CP σ) (vl:=lo.map a.eval) (vh:=hi.map a.eval)
    (λc e=>by obtain⟨y,rfl,rfl⟩:=Cj.1 e;have⟨b,hy⟩:=OB h y;exact⟨_,b,rfl,hy⟩) (λe=>by cases lo<;>first|rfl|cases e)
    (λc e=>by obtain⟨y,rfl,rfl⟩:=Cj.1 e;have⟨b,hy⟩:=OB h y;exact⟨_,b,rfl,hy⟩) (λe=>by cases hi<;>first|rfl|cases e) hc
   refine⟨v,?_,.of hv ?_⟩
   ·simp only[execOp,ho,BC,Option.map_none,hr,Bg,BW]
   ·exact uF hc
 |call c=>
  rw[ho]at hc;simp only[pc,pv]at *;have⟨callee,args,ts⟩:=c;simp only at *;obtain⟨args,rfl⟩:∃l:List Operand,args=l.toArray:=⟨args.toList,nF⟩;obtain⟨ts,rfl⟩:∃l:List TypeId,ts=l.toArray:=⟨ts.toList,nF⟩;change UB tb σ callee args ts at hc;change ∃v,_∧Gives P w St σ (tm a) (Rr σ callee args) v [];unfold UB at hc;split at hc
  ·rename_i x t;have⟨b1,hx⟩:=OB h x;by_cases hsm:∃q,CP σ x=.same q
   ·have⟨q,hq⟩:=hsm;simp only[Rr];rw[hq]at hc⊢;simp only[Za,iC]at hc⊢;cases x with
    |tmp p=>
     have hp:σ p=.same q:=hq;split at hc
     ·rename_i e' n cs e es eb ez hs ht;have⟨v,hr,hv⟩:=xl (rt:=o.type) h (htb _ _ ht) hp hs;simp only[hs];refine⟨v,?_,.of hv rfl⟩;have e1:a.eval (.tmp p)=tm a p:=rfl;simp only[execOp,ho,resolve,invoke,builtin,BC,BW,Bg,Kj,AP,DE,e1,hr]
     ·exact hc.elim
    |const v=>exfalso;simp only[CP,cV]at hq;split at hq<;>(try split at hq)<;>cases hq
    |global g=>cases hq
    |func f=>cases hq
   have h1:Za (tb t) σ (CP σ x)=ug (tb t) (CP σ x):=by cases hx':CP σ x<;>first|rfl|exact absurd ⟨_,hx'⟩ hsm
   have h2:iC σ (CP σ x)=lenV (CP σ x):=by cases hx':CP σ x<;>first|rfl|exact absurd ⟨_,hx'⟩ hsm
   rw[h1]at hc;simp only[Rr,h2];have⟨v,hr,hv⟩:=Abe (rt:=o.type) (λd e=>htb _ _ e) hx hc;refine⟨v,?_,.of hv ?_⟩
   ·simp only[execOp,ho,resolve,invoke,builtin,BC,BW,Bg,Kj,AP,DE,hr]
   ·exact xm hc
  ·rename_i x y;have⟨b1,hx⟩:=OB h x;have⟨b2,hy⟩:=OB h y;have⟨v,hr,hv⟩:=Abj (rt:=o.type) (ts:=ts.toArray) hx hy hc;refine⟨v,?_,.of hv ?_⟩
   ·simp only[execOp,ho,resolve,invoke,builtin,BC,BW,Bg,Kj,AP,DE,hr]
   ·simp only[Rr];exact sC hc
  ·rename_i x y;have⟨b1,hx⟩:=OB h x;have⟨b2,hy⟩:=OB h y;have⟨v,hr,hv⟩:=Abk (rt:=o.type) (ts:=ts.toArray) hx hy hc;refine⟨v,?_,.of hv ?_⟩
   ·simp only[execOp,ho,resolve,invoke,builtin,BC,BW,Bg,Kj,AP,DE,hr]
   ·simp only[Rr];exact sC hc
  ·exact hc.elim
 |_=>rw[ho]at hc;exact hc.elim
end
end
section
def yO{P}(w:World)(t ty e:TypeId)(z:Value)(size b:Nat)(I:P.underlying t=some (.slice e))
  (x:(P.info? e).map (λi=>(i.zero,i.size,i.bytes))=some (some z,size,b)) (S:z.cells.size=size) (T:0 < size) (U:0 < b)
  (v:Value) (n:Nat) (xs:List Value) (d:w.ownsRow 0 e size v n xs)
  (vx:Value) (m:Nat) (a:List Value) (F:QN w size vx m a) (h1:∀u∈a,u.oneCell'=true) (l:(n+m) * b<=140737488355328):
  ∃G w',(Builtin.append_ #[t,t] ty #[v,vx]).run P w=.ok G w'∧w'.ownsRow 0 e size G (n+m) (xs++a)∧w.grownBy w' v.ownBlock∧
   (G.ownBlock=v.ownBlock∨G.ownBlock=some w.heap.size)∧∀g,v.ownBlock=some g->∀o,o < n * size->w'.cell? ⟨g,o,none⟩=w.cell? ⟨g,o,none⟩:=by
 have⟨i,hi,J⟩:=Cj.1 x;simp only[Ch]at J;have⟨hz,W,hb⟩:=J;have K:n+m<=maxLen:=by have:n+m<=(n+m) * b:=Nat.le_mul_of_pos_right _ U;unfold maxLen;omega
 have X:=F;obtain⟨A,c,rfl,_⟩:=X;have⟨L,y,k⟩:=F.drop_at;cases A with
 |none=>
  have hm:=y rfl;subst hm;have hn:a=[]:=BG (by simpa using L);subst hn;refine⟨v,w,?_,by simpa using d,World.grownBy.refl w _,.inl rfl,λ_ _ _ _=>rfl⟩;rcases d.2 with⟨rfl,rfl⟩|⟨g,r,B,rfl,_,_,M,_⟩
  ·simp[Builtin.append_,BO I,sizeOf,typeInfo,hi,Builtin.lenOf,Builtin.firstCells]
  ·simp[Builtin.append_,BO I,sizeOf,typeInfo,hi,Builtin.lenOf,Builtin.firstCells,M,storeCells]
 |some H=>
  have⟨G,w',f,h2,h3,_,h5⟩:=run_append_own_at (P:=P) w 0 t ty e i z size b I hi hz W hb S T v n xs d H m c a L (k H rfl) h1 K l<|BF _;refine⟨G,w',f,h2,h3,h5,λg Y o ho=>?_⟩;rcases d.2 with⟨rfl,rfl⟩|⟨s,r,B,rfl,_,R,M,hcm,Z,hx⟩
  ·cases Y
  ·simp only[Value.ownBlock,Av]at Y;subst Y;have N:w.cell? ⟨s,o,none⟩=xs[o]?:=by simp only[World.cell?,R,Oz,CD,Ed];rw[<-hx,EE,Az ho];simp
   by_cases q:n+m<=r
   ·subst W;have O:n * i.size+a.length<=B.size:=by rw[L,Z,<-DS];exact Cd _ q
    have F:=run_append_room (P:=P) w t ty e i I hi s n r B R H m c a L (k H rfl) h1 q O;rw[F]at f;injection f with e1 e2
    subst e1;rcases h2.2 with⟨h,_⟩|⟨g2,cap2,Q,C,_,hh2,_,_,_,hx2⟩
    ·cases h
    ·injection C with C e4 e5
     injection C with C
     injection C with C
     subst C;rw[N];simp only[World.cell?,hh2,Oz,CD,Ed];have h7:(Q.toList.take<|(n+m) * i.size)[o]? =(xs++a)[o]?:=by rw[hx2]
     rw[EE,Az (by rw[DS];omega),Cc (by rw[d.1];exact ho)]at h7;simpa using h7
   ·subst W;have D:∀j u,xs[j]? =some u->w.cell? ((⟨s,0,none⟩:Addr).add j)=some u:=d.cells (g:=s) rfl;have F:=run_append_grow (P:=P) w t ty e i z I hi hz ⟨s,0,none⟩ n r xs d.1 D H m c a L (k H rfl) aG (by unfold maxLen at K;omega)<|growslice_fits aG<|by rw[hb];exact l
    rw[F]at f;injection f with e1 e2
    subst e2
    have hlt:s < w.heap.size:=by
     rcases Bi s w.heap.size with h|h
     ·exact h
     ·rw[GM h]at R;cases R
    exact(((Below.refl w.heap.size w).drew).alloc (A5 _) _).cell (p:=⟨s,o,none⟩) hlt
structure BelowK (K:Nat->Prop) (w w':World):Prop where
 os:w'.os=w.os
 tape:w'.tape=w.tape
 output:w'.output=w.output
 size:w.heap.size<=w'.heap.size
 block:∀k,K k->w'.heap[k]? =w.heap[k]?
def BelowK.refl(K:Nat->Prop)(w:World):BelowK K w w:=⟨rfl,rfl,rfl,A5 _,λ_ _=>rfl⟩
def BelowK.trans{K a b c}(h:BelowK K a b)(k:BelowK K b c):BelowK K a c:=
 ⟨k.os.trans h.os,k.tape.trans h.tape,k.output.trans h.output,Bm h.size k.size,λi hi=>(k.block i hi).trans<|h.block i hi⟩
def BelowK.of{K n w w'}(h:Below n w w')(a:∀b,K b->b < n):BelowK K w w':=⟨h.os,h.tape,h.output,h.size,λk c=>h.block k<|a k c⟩
def BelowK.below{K a w w'}(h:BelowK K a w)(c:Below w.heap.size w w')(d:∀b,K b->b < w.heap.size):BelowK K a w':=h.trans<|.of c d
def BelowK.alloc{K a w}(h:BelowK K a w)(d:∀b,K b->b < w.heap.size)(c:Obj):BelowK K a (w.alloc c):=
 h.below ((Below.refl _ _).alloc (A5 _) c) d
def BelowK.grown{K a w w' row}(h:BelowK K a w)(c:w.grownBy w' row)(f:∀b,K b->b < w.heap.size)(g:∀k,row=some k->¬K k):BelowK K a w':=
 h.trans ⟨c.os,c.tape,c.output,c.size,λk d=>c.block k (f k d)<|λe=>g k e.symm d⟩
def au{K:Nat->Prop}{w:World}(a:∀b,K b->b < w.heap.size)(c:Obj):∀b,K b->b < (w.alloc c).heap.size:=λb d=>by have:=a b d;simp;omega
def Va{K:Nat->Prop}{w w':World}(a:∀b,K b->b < w.heap.size)(h:w.heap.size<=w'.heap.size):∀b,K b->b < w'.heap.size:=λb c=>BV (a b c) h
def xi{K:Nat->Prop}{n:Nat}(a:∀b,K b->b < n):¬K n:=λh=>G2 _<|a _ h
def Rel(P:Program)(nt:Nat)(bx:zN)(base:Bs)(St0:Nat->Nat->Prop)(d:World)(σ:PS)(a:Act)(w:World):Prop:=
 ∃c B,HSim P nt bx base c B [] σ a w∧BelowK base.K d w∧(∀b o,base b->(c b o↔St0 b o))∧∀b,base b->b < w.heap.size
def W8(P:Program)(nt:Nat)(bx:zN)(base:Bs)(St0:Nat->Nat->Prop)(b:World)(o:Oper)(σ:PS)(K:PS->Prop):Prop:=
 ∀a w Q,Rel P nt bx base St0 b σ a w->o.wp P a w (λa' w'=>∃σ',K σ'∧Rel P nt bx base St0 b σ' a' w') Q
section
variable {P:Program}{nt:Nat}{base:Bs}{bx:zN}{St St' St0:Nat->Nat->Prop}{B:Nat->zN}{hand:zN}{σ:PS}{a:Act}{w w' w0:World}{K:PS->Prop}{Q:Exit->Act->World->Prop}{o:Oper}
def HSim.grow(h:HSim P nt bx base St B hand σ a w)(f:Below w.heap.size w w')(c:∀b o,b < w.heap.size->(St' b o↔St b o))(d:∀b o,St' b o->b < w'.heap.size):HSim P nt bx base St' B hand σ a w':=
 h.world (λb o e=>(c b o<|h.st b o e).2 e) (λb o e=>f.cell (p:=⟨b,o,none⟩)<|h.st b o e) f.size (λs g i=>⟨f.block g (h.range s g i).2,λo=>c g o (h.range s g i).2⟩) d
def NI{K' v}(b:(execOp a.eval o).run P w=.ok (.value v) w')(c:K' (a.put o.dst v) w'):o.wp P a w K' Q:=by unfold Oper.wp;rw[b];exact c
def zM{K'}(b:(execOp a.eval o).run P w=.ok .skip w')(c:K' (a.put o.dst undef) w'):o.wp P a w K' Q:=by unfold Oper.wp;rw[b];exact c
def gg{tb}(b:LB P tb){d:Nat}(f:o.dst=some d)(g:d < nt)(i:d∉bx)(j:pc tb σ o.op)(k:K (upd σ d<|pv tb σ o.op)):W8 P nt bx base St0 w0 o σ K:=by rintro a w Q ⟨St,B,h,l,c,m⟩;have⟨v,n,p,q,e⟩:=pure_run b h o j;refine NI n ⟨_,k,St,upd B d [],?_,l,c,m⟩;rw[f];exact h.put g i p AZ nF q e
def DB(σ:PS):Operand->PS
 |.tmp s=>upd σ s<|dg<|σ s
 |_=>σ
def WP(h:HSim P nt bx base St B hand σ a w)(x:Operand)(b:(CP σ x).isVal=true):
  ∃bs B',Ow P w St (CP σ x) (a.eval x) bs∧HSim P nt bx base St B' (hand++bs) (DB σ x) a w∧(hand++bs).Nodup:=by
 cases x with
 |tmp s=>have⟨d,c⟩:=h.take s b;exact⟨B s,_,d,c,c.hnodup⟩
 |const v=>exact⟨[],B,(kl (a:=a) v).ow b,by simpa[DB]using h,by simpa using h.hnodup⟩
 |global g=>cases b
 |func f=>exact⟨[],B,⟨rfl,rfl⟩,by simpa[DB]using h,by simpa using h.hnodup⟩
def gj{x:Operand}{d:Nat}(b:o.op=.assign x∨o.op=.move x)(g:o.dst=some d)(i:d < nt)(j:d∉bx)(k:(CP σ x).isVal=true)(l:K (upd (DB σ x) d<|CP σ x)):W8 P nt bx base St0 w0 o σ K:=by
 rintro a w Q ⟨St,B,h,m,c,n⟩;obtain⟨bs,B',f,p,q⟩:=WP h x k;have r:(execOp a.eval o).run P w=.ok (.value<|a.eval x) w:=by rcases b with e|e<;>simp[execOp,e]
 refine NI r ⟨_,l,St,upd B' d bs,?_,m,c,n⟩;rw[g];exact p.put i j f.slot (by simpa using q) nF f.Ek.1 f.SR
def AbD{d:Nat}{e:TypeId}(b:o.op=.assign (.const<|.slice none 0 0)∨o.op=.move (.const<|.slice none 0 0))(g:o.dst=some d)(i:d < nt)(j:d∉bx)(k:K (upd σ d<|.own e 0 [])):W8 P nt bx base St0 w0 o σ K:=by
 rintro a w Q ⟨St,B,h,l,c,m⟩;have n:(execOp a.eval o).run P w=.ok (.value<|.slice none 0 0) w:=by rcases b with e|e<;>simp[execOp,e,Act.eval]
 refine NI n ⟨_,k,St,upd B d [],?_,l,c,m⟩;rw[g];have f:Ow P w St (.own e 0 []) (.slice none 0 0) []:=⟨BF _,[],[],MS _ _ _ _,⟨rfl,rfl⟩,rfl,(λg p=>by cases p),λ_=>rfl⟩;exact h.put i j f.slot AZ nF f.Ek.1 f.SR
def yh{d:Nat}(b:o.op=.assign (.const<|.pointer none)∨o.op=.move (.const<|.pointer none))(g:o.dst=some d)(i:d < nt)(j:d∉bx)(k:K (upd σ d .undef)):W8 P nt bx base St0 w0 o σ K:=by
 rintro a w Q ⟨St,B,h,l,f,m⟩;have n:(execOp a.eval o).run P w=.ok (.value<|.pointer none) w:=by rcases b with e|e<;>simp[execOp,e,Act.eval]
 refine NI n ⟨_,k,St,upd B d [],?_,l,f,m⟩;rw[g];exact h.put i j (c:=.undef) rfl AZ nF rfl (λb e=>by cases e)
def MB.split:∀(cs:List V) (i:Nat) {us:List Value}{bs:zN}{c:V},MB P w St cs us bs->cs[i]? =some c->cs.all V.isArg=true->bs.Nodup->∃u b1 b2,us[i]? =some u∧Ow P w St c u b1∧MB P w St (cs.set i<|dg2 c) us b2∧b1.Nodup∧b2.Nodup∧(∀g∈b1,g∈bs)∧(∀g∈b2,g∈bs)∧∀g∈b1,g∉b2
 |[],i,_,_,_,_,e,_,_=>by simp at e
 |d::cs,0,_,_,c,⟨u,j,b1,b2,l,e2,p,q⟩,e,m,n=>by simp only[CB,Av]at e;subst e;simp only[BM,Ab]at m;rw[e2]at n⊢;have b:=AI.1 n;refine⟨u,b1,b2,by rw[l];rfl,p,⟨u,j,[],b2,l,rfl,p.OP m.1,q⟩,b.1,b.2.1,λg f=>AD _ f,λg f=>AB _ f,λg f k=>b.2.2 g f g k rfl⟩
 |d::cs,i+1,_,_,c,⟨u,j,b1,b2,l,e2,p,q⟩,e,m,n=>by
  simp only[BM,Ab]at m;rw[e2]at n⊢;have b:=AI.1 n;obtain⟨x,s,c2,t,v,z,A,C,s1,s2,D⟩:=MB.split cs i q (by simpa using e) m.2 b.2.1;refine⟨x,s,b1++c2,by rw[l];simpa using t,v,⟨u,j,b1,c2,l,rfl,p,z⟩,A,?_,λg f=>AB _<|s1 g f,λg f=>?_,λg f k=>?_⟩
  ·exact AI.2 ⟨b.1,C,λx F y G r=>b.2.2 x F y (s2 y G) r⟩
  ·rcases Al.1 f with h|h
   ·exact AD _ h
   ·exact AB _<|s2 g h
  ·rcases Al.1 k with h|h
   ·exact b.2.2 g h g (s1 g f) rfl
   ·exact D g f h
def HSim.part(h:HSim P nt bx base St B hand σ a w)(s:Nat)(hold:DC (σ s)=none){c:V}{b1 b2:zN}(hc:CC P w St (tm a) c (tm a s) b2)(hnb:DC c=none)(hcr:Ex c=none)
  (n1:b1.Nodup) (n2:b2.Nodup) (s1:∀g∈b1,g∈B s) (s2:∀g∈b2,g∈B s) (hap:∀g∈b1,g∉b2):HSim P nt bx base St (upd B s b2) (hand++b1) (upd σ s c) a w:=by
 have hB:∀q,∀g∈upd B s b2 q,g∈B q:=by
  intro q g hg;by_cases e:q=s
  ·subst e;rw[upd_same]at hg;exact s2 g hg
  ·rw[upd_ne _ _ e]at hg;exact hg
 exact
 {h with
  slot:=λq=>by
   by_cases e:q=s
   ·subst e;rw[upd_same,upd_same];exact hc
   ·rw[upd_ne _ _ e,upd_ne _ _ e];exact h.slot q
  boxes:=λq cs e=>by
   by_cases eq:q=s
   ·subst eq;rw[upd_same,hnb]at e;cases e
   ·rw[upd_ne _ _ eq]at e;exact h.boxes q cs e
  crefs:=λq b e=>by
   by_cases eq:q=s
   ·subst eq;rw[upd_same,hcr]at e;cases e
   ·rw[upd_ne _ _ eq]at e;have⟨cs,hcs⟩:=h.crefs q b e;refine⟨cs,?_⟩;rw[upd_ne _ _ (λeb=>by subst eb;rw[hold]at hcs;cases hcs)];exact hcs
  nodup:=λq=>by
   by_cases e:q=s
   ·subst e;rw[upd_same];exact n2
   ·rw[upd_ne _ _ e];exact h.nodup q
  apart:=λq r hqr g hg hg'=>h.apart q r hqr g (hB q g hg)<|hB r g hg'
  hnodup:=AI.2 ⟨h.hnodup,n1,λx hx y hy e=>by subst e;exact h.hapart s x (s1 x hy) hx⟩
  hapart:=λq g hg hm=>by
   rcases Al.1 hm with hm|hm
   ·exact h.hapart q g (hB q g hg) hm
   ·by_cases e:q=s
    ·subst e;rw[upd_same]at hg;exact hap g hm hg
    ·exact h.apart q s e g (hB q g hg)<|s1 g hm
  range:=λq g hg=>h.range q g<|hB q g hg
  hrange:=λg hg=>by
   rcases Al.1 hg with hg|hg
   ·exact h.hrange g hg
   ·exact h.range s g (s1 g hg)}
def nz{s i d:Nat}(e:o.op=.extract (.tmp s) i)(m:o.dst=some d)(n:d < nt)(p:d∉bx){cs:List V}{c:V}(j:σ s=.tup cs)(hi:cs[i]? =some c)(q:cs.all V.isArg=true)
  (r:K (upd (upd σ s<|.tup<|cs.set i<|dg2 c) d c)):W8 P nt bx base St0 w0 o σ K:=by
 rintro a w Q ⟨St,B,h,t,f,v⟩;have b:=h.slot s;rw[j]at b;obtain⟨us,k,x⟩:=b;obtain⟨u,b1,b2,y,g,z,l,A,s1,s2,C⟩:=MB.split cs i x hi q<|h.nodup s;have D:(execOp a.eval o).run P w=.ok (.value u) w:=by have e2:a.eval (.tmp s)=.tuple us.toArray:=k;simp[execOp,e,e2,Instr.extract,y]
 have F:=h.part s (by rw[j];rfl) (c:=.tup<|cs.set i<|dg2 c) (b1:=b1) (b2:=b2) ⟨us,k,z⟩ rfl rfl l A s1 s2 C;refine NI D ⟨_,r,St,upd (upd B s b2) d b1,?_,t,f,v⟩;rw[m];exact F.put n p g.slot l nF g.Ek.1 g.SR
def Bx.app:∀{cs ds:List V}{us:List Value}{bs:zN},Bx P w St (cs++ds) us bs->∃b d b1 b2,us=b++d∧bs=b1++b2∧Bx P w St cs b b1∧Bx P w St ds d b2
 |[],ds,us,bs,h=>⟨[],us,[],bs,rfl,rfl,⟨rfl,rfl⟩,h⟩
 |c::cs,ds,us,bs,⟨u,f,b1,b2,g,e2,i,j,k⟩=>by have⟨b,d,e,c2,l,m,n,p⟩:=Bx.app k;exact⟨u::b,d,b1++e,c2,by rw[g,l];rfl,by rw[e2,m,Bw],⟨u,b,b1,e,rfl,rfl,i,j,n⟩,p⟩
def Bx.join:∀{cs ds:List V}{d b:List Value}{b1 b2:zN},Bx P w St cs d b1->Bx P w St ds b b2->Bx P w St (cs++ds) (d++b) (b1++b2)
 |[],ds,_,b,_,b2,⟨e,e2⟩,h=>by subst e e2;exact h
 |c::cs,ds,_,b,_,b2,⟨u,f,g,c2,e,e2,i,j,k⟩,h=>⟨u,f++b,g,c2++b2,by rw[e];rfl,by rw[e2,Bw],i,j,Bx.join k h⟩
def G7:V->List V
 |.agg cs=>cs
 |c=>[c]
def Ow.cells{c v bs}(h:Ow P w St c v bs)(b:c.isArg=true):Bx P w St (G7 c) v.cells.toList bs:=by
 have d:∀c:V,c.D3=true->Ow P w St c v bs->Bx P w St [c] v.cells.toList bs:=by
  intro c b h;have e:=(Ow.rd c h b).oneCell;have:v.cells= #[v]:=by cases v<;>first|rfl|cases e
  rw[this];exact⟨v,[],bs,[],rfl,nF,b,h,rfl,rfl⟩
 cases c<;>first|exact d _ b h|cases b|skip
 obtain⟨us,rfl,h⟩:=h;exact h
def N7{α:Type}(cs:List α)(off:Nat)(b:List α):List α:=cs.take off++b++cs.drop (off+b.length)
def db{α:Type}{cs b:List α}{off:Nat}(h:off+b.length<=cs.length):(N7 cs off b).length=cs.length:=by simp[N7];omega
def lA{α:Type}(cs:List α)(off n:Nat):cs=cs.take off++((cs.drop off).take n++cs.drop (off+n)):=by rw[<-J5,CI,CI]
def HSim.Ana(h:HSim P nt bx base St B hand σ a w){s g:Nat}{cs cs':List V}{c':V}{bs':zN}(hcs:DC (σ s)=some cs)(hcs':DC c'=some cs')(hB:B s=g::bs')(hng:∀o,¬St g o)(hkeep:∀k,k≠g->w'.heap[k]? =w.heap[k]?)(hz:w'.heap.size=w.heap.size)
  {bs:zN}{hand':zN}(hc:CC P w' St (tm a) c' (tm a s) bs)
  (hn:bs.Nodup) (hs:∀g∈bs,g∈B s∨g∈hand) (hn':hand'.Nodup) (hs':∀g∈hand',g∈B s∨g∈hand) (hap:∀g∈bs,g∉hand'):
  HSim P nt bx base St (upd B s bs) hand' (upd σ s c') a w':=by
 have hrf:Ex c'=none:=by cases c'<;>first|rfl|cases hcs'
 have hbox:∀b,(∃cs,DC (σ b)=some cs)->∃cs'',DC (upd σ s c' b)=some cs'':=λb ⟨cs,e⟩=>by
  by_cases eb:b=s
  ·subst eb;exact⟨cs',by rw[upd_same];exact hcs'⟩
  ·exact⟨cs,by rw[upd_ne _ _ eb];exact e⟩
 have hout:∀q,q≠s->∀g∈B q,¬(g∈B s∨g∈hand):=λq hq g hg hm=>by
  rcases hm with hm|hm
  ·exact h.apart q s hq g hg hm
  ·exact h.hapart q g hg hm
 refine
 {size:=h.size
  defers:=h.defers
  slot:=λq=>by
   by_cases e:q=s
   ·subst e;rw[upd_same,upd_same];exact hc
   ·rw[upd_ne _ _ e,upd_ne _ _ e];refine(h.slot q).mono (λ_ _ h=>h) (λb o hs=>?_) (λk hk=>⟨hkeep k<|λek=>?_,λ_=>Ea⟩)<|λ_ _=>rfl
    ·exact Co<|hkeep b<|λeb=>hng o<|eb ▸ hs
    ·subst ek;exact h.apart q s e k hk (by rw[hB];simp)
  boxes:=λq cs e=>by
   by_cases eq:q=s
   ·subst eq;exact h.boxes _ _ hcs
   ·rw[upd_ne _ _ eq]at e;exact h.boxes q cs e
  crefs:=λq b e=>by
   by_cases eq:q=s
   ·subst eq;rw[upd_same,hrf]at e;cases e
   ·rw[upd_ne _ _ eq]at e;exact hbox b<|h.crefs q b e
  nodup:=λq=>by
   by_cases e:q=s
   ·subst e;rw[upd_same];exact hn
   ·rw[upd_ne _ _ e];exact h.nodup q
  apart:=λq r hqr g hg hg'=>by
   by_cases e:q=s
   ·subst e;rw[upd_same]at hg;rw[upd_ne _ _ (Ne.symm hqr)]at hg';exact hout r (Ne.symm hqr) g hg'<|hs g hg
   ·rw[upd_ne _ _ e]at hg;by_cases e':r=s
    ·subst e';rw[upd_same]at hg';exact hout q e g hg<|hs g hg'
    ·rw[upd_ne _ _ e']at hg';exact h.apart q r hqr g hg hg'
  hnodup:=hn'
  hapart:=λq g hg hm=>by
   by_cases e:q=s
   ·subst e;rw[upd_same]at hg;exact hap g hg hm
   ·rw[upd_ne _ _ e]at hg;exact hout q e g hg<|hs' g hm
  range:=λq g hg=>by
   rw[hz];by_cases e:q=s
   ·subst e;rw[upd_same]at hg;rcases hs g hg with h1|h1
    ·exact h.range _ g h1
    ·exact h.hrange g h1
   ·rw[upd_ne _ _ e]at hg;exact h.range q g hg
  hrange:=λg hg=>by
   rw[hz];rcases hs' g hg with h1|h1
   ·exact h.range _ g h1
   ·exact h.hrange g h1
  st:=λb o hs=>by rw[hz];exact h.st b o hs
  gl:=h.gl.of (λb hb o=>hb o)<|λb o hb=>Co<|hkeep b<|λeb=>hng o<|eb ▸ hb o
  pin:=h.pin}
end
end
section
def UA(d:TyD)(cs:List V)(off:Nat):V:=
 match d with
 |.st n _ _=>.agg<|(cs.drop off).take n
 |_=>match cs[off]? with
  |some c=>c
  |none=>.undef
def Sa(n:Nat)(cs:List V)(off:Nat):List V:=N7 cs off<|((cs.drop off).take n).map WS
section
variable {P:Program}{nt:Nat}{base:Bs}{bx:zN}{St St' St0:Nat->Nat->Prop}{B:Nat->zN}{hand:zN}{σ:PS}{a:Act}{w w' w0:World}{K:PS->Prop}{Q:Exit->Act->World->Prop}{o:Oper}
def take_one{α:Type}{cs:List α}{off:Nat}(h:off < cs.length):(cs.drop off).take 1=[cs[off]]:=by rw[BQ h,Eu,O5]
def lq{tb}(htb:LB P tb){t:TypeId}{dd:TyD}{x:Operand}{s off d:Nat}{cs:List V}(F:o.op=.load t x)(ht:tb t=some dd)(G:Oa σ x=.cref s off)(U:DC (σ s)=some cs)(hl:off+dd.size<=cs.length)
  (ho:o.dst=some d) (hd:d < nt) (hx:d∉bx) (hk:K (upd (upd σ s<|WY (σ s)<|Sa dd.size cs off) d<|UA dd cs off)):W8 P nt bx base St0 w0 o σ K:=by
 rintro a w Q ⟨St,B,h,hb,hst,hz⟩;have⟨g,T,bs',arr,h1,h2,h3,h4,h5,h6⟩:=T7 h G U;have hlc:XH dd σ (Oa σ x):=by rw[G];simp only[XH,U];exact hl
 have l:=htb _ _ ht;have e0:=lA cs off dd.size;rw[e0]at h4;have⟨us1,us2,b1,b2,eu,W,r1,r2⟩:=Bx.app h4;have⟨b,us4,H,X,I,C,J,r4⟩:=Bx.app r2;have l1:us1.length=off:=by rw[r1.length,AH,CS aG]
 have l3:b.length=dd.size:=by rw[J.length,AH,BH,CS aG]
 have hnd:(g::(b1++(H++X))).Nodup:=by have:=h.nodup s;rw[h5,W,C]at this;exact this
 have m:∀(j:Nat) (u:Value),b[j]? =some u->w.cell? ⟨g,off+j,none⟩=some u:=by
  intro j u hu
  have Y:j < b.length:=by
   rcases Bi j b.length with h|h
   ·exact h
   ·rw[Bt h]at hu;cases hu
  simp only[World.cell?,h3,Oz,CD,Ed];have:arr.toList[off+j]? =some u:=by rw[eu,I,CF aG,l1,Dn,Cc Y];exact hu
  simpa using this
 have L:∃v,(execOp a.eval o).run P w=.ok (.value v) w∧Ow P w St (UA dd cs off) v H:=by
  cases p:dd.bp with
  |true=>
   cases dd with
   |sc z=>cases p
   |sl e es W ez=>cases p
   |st n z f=>refine⟨.agg b.toArray,?_,b,rfl,J⟩;have Z:=Ji (P:=P) (w:=w) ⟨g,off,none⟩ b (λj v M=>by rw[add_plain];exact m j v M);simp only[TyD.size]at l3;rw[l3]at Z;simp[execOp,F,h1,Instr.loadAt,Instr.sureAddr,loadVar,l.isAgg,l.sizeOf,TyD.bp,TyD.size,Z]
  |false=>
   have hs1:dd.size=1:=by cases dd<;>first|rfl|cases p
   have N:off < cs.length:=aG;rw[hs1,take_one N]at J;have⟨u,us',c1,c2,e1,e2,hc,q1,q2⟩:=J;obtain⟨rfl,rfl⟩:=q2;have hcl:=m 0 u (by rw[e1];rfl);refine⟨u,?_,?_⟩
   ·have A:w.cell? ⟨g,off,none⟩=some u:=by simpa using hcl
    simp[execOp,F,h1,Instr.loadAt,Instr.sureAddr,loadVar,l.isAgg,p,A]
   ·have:UA dd cs off=cs[off]:=by cases dd<;>first|(simp only[UA,Af N];done)|cases p
    rw[this,e2,A7];exact q1
 have⟨v,Z,M⟩:=L
 have O:CC P w St (tm a) (WY (σ s)<|Sa dd.size cs off) (tm a s) (g::(b1++X)):=by
  have R:(Sa dd.size cs off).length=cs.length:=db (by rw[Ai,AH,BH,CS aG];exact hl);refine gX U (h.slot s) h2 h3 h3 ?_ h6 R;have Y:=r1.join<|(Bx.dp _ J).join r4;rw[BX]at Y;have ll:(((cs.drop off).take dd.size).map WS).length=dd.size:=by rw[Ai,AH,BH,CS aG]
  unfold Sa N7;rw[ll,eu,I,Bw];exact Y
 have r:=BI.1 hnd;have c:=AI.1 r.2;have i:=AI.1 c.2.1
 have S:∀q∈g::(b1++X),q∈B s∨q∈([]:zN):=by
  intro q k;rw[h5,W,C];simp only[AL,Al]at *;rcases k with h|h|h
  ·exact .inl<|.inl h
  ·exact .inl<|.inr<|.inl h
  ·exact .inl<|.inr<|.inr<|.inr h
 have hb3:∀q∈H,q∈B s:=by intro q k;rw[h5,W,C];simp only[AL,Al];exact .inr<|.inr<|.inl k
 have h7:=h.Aiw (hand':=H) U (eT _ _) O (BI.2 ⟨λhm=>r.1 (by
   rcases Al.1 hm with hm|hm
   ·exact AD _ hm
   ·exact AB _ (AB _ hm)),AI.2 ⟨c.1,i.2.1,λx hx y hy=>c.2.2 x hx y (AB _ hy)⟩⟩) S i.1 (λq k=>.inl (hb3 q k)) (by
  intro q k D;rcases AL.1 k with rfl|k
  ·exact r.1<|AB _<|AD _ D
  ·rcases Al.1 k with k|k
   ·exact c.2.2 q k q (AD _ D) rfl
   ·exact i.2.2 q D q k rfl)
 refine NI Z ⟨_,hk,St,upd (upd B s<|g::(b1++X)) d H,?_,hb,hst,hz⟩;rw[ho];exact h7.put hd hx M.slot i.1 nF M.Ek.1 M.SR
def zw{y s cs}(b:DC (σ s)=some cs)(c:(CP σ y).isVal=true):DB σ y s=σ s:=by
 cases y with
 |tmp q=>
  simp only[DB];by_cases e:s=q
  ·subst e;rw[show CP σ (.tmp s)=σ s from rfl]at c;rw[(WR c).1]at b;cases b
  ·rw[upd_ne _ _ e]
 |_=>rfl
def zu{x y s off}(b:Oa σ x=.cref s off)(c:(CP σ y).isVal=true):Oa (DB σ y) x=.cref s off:=by
 cases y with
 |tmp q=>
  cases x with
  |tmp p=>
   have d:p≠q:=by
    intro e;subst e;rw[show CP σ (.tmp p)=σ p from rfl]at c;simp only[Oa]at b;split at b
    ·rename_i h;rw[h]at c;cases c
    ·rw[b]at c;cases c
   simp only[DB,Oa]at *;rw[upd_ne _ _ d];exact b
  |_=>exact b
 |_=>exact b
def uB{tb}(htb:LB P tb){t:TypeId}{dd:TyD}{x y:Operand}{s off:Nat}{cs:List V}(hop:o.op=.store t x y)(ht:tb t=some dd)(hax:Oa σ x=.cref s off)(hs:DC (σ s)=some cs)
  (Y:(CP σ y).isArg=true) (hn:(G7<|CP σ y).length=dd.size) (hl:off+dd.size<=cs.length) (ho:o.dst=none) (c:K (upd (DB σ y) s<|WY (σ s)<|N7 cs off<|G7<|CP σ y)):W8 P nt bx base St0 w0 o σ K:=by
 have A:(CP σ y).isVal=true:=by cases h:CP σ y<;>rw[h]at Y<;>first|exact Y|cases Y
 rintro a w Q ⟨St,B,h,hb,hst,hz⟩;have⟨bs,B',hw,v,H⟩:=WP h y A;rw[BX]at v H;have I:=zw hs A;have J:DC (DB σ y s)=some cs:=by rw[I];exact hs
 have⟨g,T,bs',m,q1,q2,q3,q4,F,q6⟩:=T7 v (zu hax A) J;have L:=htb _ _ ht;have f:=hw.cells Y;have e0:=lA cs off dd.size;rw[e0]at q4;have⟨i,us2,b1,b2,eu,eb,r1,r2⟩:=Bx.app q4;have⟨us3,l,b3,G,M,N,r3,r4⟩:=Bx.app r2;have Z:i.length=off:=by rw[r1.length,AH,CS aG]
 have l3:us3.length=dd.size:=by rw[r3.length,AH,BH,CS aG]
 have lv:(a.eval y).cells.toList.length=dd.size:=by rw[f.length,hn]
 have la:m.toList.length=cs.length:=by rw[eu,M,An,An,Z,l3,r4.length,BH];omega
 have z:=run_storeCells_at (P:=P) g off T (a.eval y).cells.toList 0 m w q3 (by rw[lv];rw[Ce]at la;omega)<|(Bx.rdL _ f).oneCell
 have O:m.toList.take (off+0)++(a.eval y).cells.toList++m.toList.drop (off+0+(a.eval y).cells.toList.length)=i++((a.eval y).cells.toList++l):=by
  rw[lv,D5,eu,M,Bw];congr 1
  ·rw[<-Z];simp
  ·congr 1;rw[<-Bw,Eb (by simp[Z,l3]),DR (by simp[Z,l3])];simp
 rw[O]at z
 have hr:(execOp a.eval o).run P w=.ok .skip (w.setRow g (i++((a.eval y).cells.toList++l)).toArray):=by
  have hsz:(a.eval y).cells.size=dd.size:=by rw[<-lv,Ce]
  simp[execOp,hop,q1,Instr.storeAt,Instr.sureAddr,storeVar,L.sizeOf,hsz,z]
 have d:∀k,k≠g->(w.setRow g (i++((a.eval y).cells.toList++l)).toArray).heap[k]? =w.heap[k]?:=λk c=>K1 w g k _ c
 have j:(w.setRow g (i++((a.eval y).cells.toList++l)).toArray).heap.size=w.heap.size:=by simp[World.setRow]
 have n:Ext St w (w.setRow g (i++((a.eval y).cells.toList++l)).toArray):=λb o' hs'=>Co<|d b<|λe=>q6 o'<|e ▸ hs'
 have hnd:(g::(b1++(b3++G))).Nodup:=by have:=v.nodup s;rw[F,eb,N]at this;exact this
 have p:=BI.1 hnd;have q:=AI.1 p.2;have R:=AI.1 q.2.1;have u:∀k∈bs,k≠g:=λk c e=>v.hapart s g (by rw[F];simp)<|e ▸ c
 have C:∀k,k∈b1∨k∈G->k∈B' s:=by
  intro k c;rw[F,eb,N];simp only[AL,Al];rcases c with c|c
  ·exact .inr<|.inl c
  ·exact .inr<|.inr<|.inr c
 have S:∀k∈b1,k≠g:=λk c e=>p.1<|e ▸ AD _ c
 have U:∀k∈G,k≠g:=λk c e=>p.1<|e ▸ AB _ (AB _ c)
 have m1:=Bx.mono (St':=St) (λ_ _ h=>h) n _ r1<|λk c=>⟨d k<|S k c,λ_=>Ea⟩
 have m4:=Bx.mono (St':=St) (λ_ _ h=>h) n _ r4<|λk c=>⟨d k<|U k c,λ_=>Ea⟩
 have mv:=Bx.mono (St':=St) (λ_ _ h=>h) n _ f<|λk c=>⟨d k<|u k c,λ_=>Ea⟩
 have W:CC P (w.setRow g (i++((a.eval y).cells.toList++l)).toArray) St (tm a) (WY (σ s)<|N7 cs off<|G7<|CP σ y) (tm a s) (g::(b1++(bs++G))):=by
  refine gX hs (by have:=v.slot s;rw[I]at this;exact this) q2 q3 (setRow_heap w g m _ T _ q3) ?_ q6<|db<|by rw[hn];exact hl
  unfold N7;rw[hn,Bw];exact m1.join<|mv.join m4
 have X:∀k∈bs,¬(k∈b1∨k∈G):=λk c r=>v.hapart s k (C k r) c
 refine zM hr ⟨_,c,St,upd B' s<|g::(b1++(bs++G)),?_,?_,hst,by rw[j];exact hz⟩
 ·rw[ho];refine v.Ana J (eT _ _) F q6 d j W ?_ ?_ AZ nF nF
  ·refine BI.2 ⟨?_,AI.2 ⟨q.1,AI.2 ⟨H,R.2.1,λx hx y D e=>X x hx<|.inr<|e ▸ D⟩,?_⟩⟩
   ·intro r;rcases Al.1 r with r|r
    ·exact S g r rfl
    ·rcases Al.1 r with r|r
     ·exact u g r rfl
     ·exact U g r rfl
   ·intro x hx y D e;rcases Al.1 D with D|D
    ·exact X y D<|.inl<|e ▸ hx
    ·exact q.2.2 x hx y (AB _ D) e
  ·intro k c;rcases AL.1 c with rfl|c
   ·exact .inl (by rw[F];simp)
   ·rcases Al.1 c with c|c
    ·exact .inl<|C k<|.inl c
    ·rcases Al.1 c with c|c
     ·exact .inr c
     ·exact .inl<|C k<|.inr c
 ·have u:¬base g:=(v.range s g<|by rw[F];simp).1;exact hb.trans ⟨rfl,rfl,rfl,by rw[j];exact A5 _,λk c=>d k<|λe=>u<|e ▸ c⟩
def ip:TyD->List V
 |.sc z=>[z]
 |.st _ z _=>z
 |.sl e _ _ _=>[.own e 0 []]
def pJ(e:TypeId):Ow P w St (.own e 0 []) (.slice none 0 0) []:=⟨BF _,[],[],MS _ _ _ _,⟨rfl,rfl⟩,rfl,(λg b=>by cases b),λ_=>rfl⟩
def zP{t d}(h:N8 P t d):∃zv,(zeroValue t).run P w=.ok zv w∧∀w St,Bx P w St (ip d) zv.cells.toList []:=by
 cases d with
 |sc z=>
  have⟨i,zv,d,hi,_,c,b,_⟩:=h;refine⟨zv,by simp[zeroValue,typeInfo,hi,c],λw St=>?_⟩;have k:=b w St;have l:=(Bx.rdL _ k).oneCell zv nF;have:zv.cells= #[zv]:=by cases zv<;>first|rfl|cases l
  rw[this];exact k
 |st n z f=>have⟨i,g,m,hi,_,c,b,_⟩:=h;exact⟨.agg g,by simp[zeroValue,typeInfo,hi,c],λw St=>b w St⟩
 |sl e es p q=>have⟨i,j,zv,hi,_,c,_⟩:=h;exact⟨.slice none 0 0,by simp[zeroValue,typeInfo,hi,c],λw St=>⟨.slice none 0 0,[],[],[],rfl,rfl,rfl,pJ e,rfl,rfl⟩⟩
def alloc_heap_new(w:World)(b:Obj):(w.alloc b).heap[w.heap.size]? =some b:=heap_alloc_new w b
def HSim.alloc(h:HSim P nt bx base St B hand σ a w)(j:∀b,base b->b < w.heap.size)(e:Obj)(f:∀b o,b < w.heap.size->(St' b o↔St b o))(d:∀b o,St' b o->b<=w.heap.size):
  HSim P nt bx base St' B (hand++[w.heap.size]) σ a (w.alloc e):=by
 have k:=h.grow (w':=w.alloc e) (eQ w e) f (λb o l=>by rw[World.size_alloc];exact Nat.lt_succ_of_le<|d b o l);refine k.fresh nF ?_ ?_ ?_
 ·intro g c;simp only[As]at c;subst c;exact⟨xi j,nF⟩
 ·intro s g c i;simp only[As]at i;have:=(h.range s g c).2;omega
 ·intro g c i;simp only[As]at i;have:=(h.hrange g c).2;omega
def uo{tb}(f:LB P tb){t:TypeId}{dd:TyD}{d:Nat}(g:o.op=.alloc t)(p:tb t=some dd)(q:o.dst=some d)(r:d < nt)(s:d∈bx)(i:SQ+d∉bx)(e:DC (σ d)=none)(u:K (upd σ d<|.box<|ip dd)):W8 P nt bx base St0 w0 o σ K:=by
 rintro a w Q ⟨St,B,h,v,j,k⟩;have⟨zv,l,m⟩:=zP (w:=w)<|f _ _ p;have x:(execOp a.eval o).run P w=.ok (.value<|.pointer<|some ⟨w.heap.size,0,none⟩) (w.alloc<|.cells zv.cells t):=by simp[execOp,g,Instr.alloc,l,newVar,newRow]
 have y:=h.alloc (St':=St) k (.cells zv.cells t) (λ_ _ _=>Ea)<|λb o n=>Ck<|h.st b o n
 refine NI x ⟨_,u,St,upd B d [w.heap.size],?_,v.alloc k _,j,au k _⟩;rw[q];refine y.gA r s i e (c:=.box<|ip dd) ⟨w.heap.size,t,[],zv.cells,rfl,alloc_heap_new w _,m _ _,rfl,λo n=>absurd (h.st _ o n) aG⟩ nF nF rfl
def cF(h:HSim P nt bx base St B hand σ a w){cs:List V}{us:List Value}{bs:zN}(j:Bx P w St cs us bs)(f:∀g∈bs,g∈hand)(e:Obj)(c:∀b o,b < w.heap.size->(St' b o↔St b o)):Bx P (w.alloc e) St' cs us bs:=
 Bx.mono (λb o d=>(c b o<|h.st b o d).2 d) (λb o d=>(eQ w e).cell (p:=⟨b,o,none⟩)<|h.st b o d) cs j (λg i=>⟨(eQ w e).block g (h.hrange g<|f g i).2,λo=>c g o (h.hrange g<|f g i).2⟩)
def M8{c:V}(h:c.isArg=true):c.isVal=true:=by cases c<;>first|exact h|cases h
def AbB{t:TypeId}{x:Operand}{d:Nat}(hop:o.op=.box t x)(ho:o.dst=some d)(hd:d < nt)(hx:d∈bx)(hd0:SQ+d∉bx)(hv:(CP σ x).isArg=true)(hold:DC (DB σ x d)=none)(hk:K (upd (DB σ x) d<|.box<|G7<|CP σ x)):W8 P nt bx base St0 w0 o σ K:=by
 rintro a w Q ⟨St,B,h,hb,hst,hz⟩;obtain⟨bs,B',hw,h2,hnb⟩:=WP h x<|M8 hv;rw[BX]at h2 hnb;have hr:(execOp a.eval o).run P w=.ok (.value<|.pointer<|some ⟨w.heap.size,0,none⟩) (w.alloc<|.cells (a.eval x).cells t):=by simp[execOp,hop,Instr.box,newVar,newRow]
 have h1:=h2.alloc (St':=St) hz (.cells (a.eval x).cells t) (λ_ _ _=>Ea)<|λb o hs=>Ck<|h.st b o hs
 have hrow:=cF (St':=St) h2 (hw.cells hv) (λ_ h=>h) (.cells (a.eval x).cells t)<|λ_ _ _=>Ea
 have hgn:w.heap.size∉bs:=λhm=>by have:=(h2.hrange _ hm).2;omega
 refine NI hr ⟨_,hk,St,upd B' d<|w.heap.size::bs,?_,hb.alloc hz _,hst,au hz _⟩;rw[ho]
 refine h1.gA hd hx hd0 hold (c:=.box (G7 (CP σ x))) ⟨w.heap.size,t,bs,_,rfl,alloc_heap_new w _,hrow,rfl,λo hs=>absurd (h.st _ o hs) aG⟩ (BI.2 ⟨hgn,hnb⟩) (by
  intro g hg;rcases AL.1 hg with rfl|hg
  ·simp
  ·exact AD _ hg) rfl
def Ts(b:Nat->Option (Nat×Nat)):List (Nat×Operand)->PS->List V->Option (PS×List V)
 |[],σ,cs=>some (σ,cs)
 |(i,x)::r,σ,cs=>match b i with
  |some (off,c)=>if(CP σ x).isArg=true∧(G7<|CP σ x).length=c∧off+c<=cs.length then Ts b r (DB σ x) (N7 cs off<|G7<|CP σ x)else none
  |none=>none
def ze(d:List Value):∀(k off:Nat) (b:Array Value),off+k+d.length<=b.size->
  (d.zipIdx k).foldl (λcs (c,j)=>cs.setIfInBounds (off+j) c) b=(b.toList.take (off+k)++d++b.toList.drop (off+k+d.length)).toArray:=by
 induction d with
 |nil=>intro k off b _;simp
 |cons u d e=>
  intro k off b f;simp only[AC]at f;rw[List.zipIdx_cons,Ca,e (k+1) off _ (by simp;omega)];have g:off+k < b.toList.length:=by rw[Ce];omega
  have h:(b.setIfInBounds (off+k) u).toList=b.toList.set (off+k) u:=nF;have e2:(b.toList.set (off+k) u).take (off+(k+1))=b.toList.take (off+k)++[u]:=by rw[show off+(k+1)=off+k+1 by omega,A3 (by rw[By];exact g),List.take_set_of_le aG];simp
  have i:(b.toList.set (off+k) u).drop (off+(k+1)+d.length)=b.toList.drop (off+k+(u::d).length):=by rw[List.drop_set_of_lt aG,AC];congr 1;omega
  simp only;rw[h,e2,i];simp
def kH(c:Nat->Option (Nat×Nat)):∀(parts:List (Nat×Operand)) (σ σ':PS) (B:Nat->zN) (hand:zN) (cs cs':List V) (b:Array Value) (bs:zN),HSim P nt bx base St B hand σ a w->Bx P w St cs b.toList bs->bs.Nodup->(∀g∈bs,g∈hand)->Ts c parts σ cs=some (σ',cs')->
  ∃B' hand' r t,Instr.fill c b (parts.map λp=>(p.1,a.eval p.2))=some r∧HSim P nt bx base St B' hand' σ' a w∧Bx P w St cs' r.toList t∧t.Nodup∧∀g∈t,g∈hand'
 |[],σ,σ',B,hand,cs,cs',b,bs,h,G,H,z,e=>by simp only[Ts,Av,Ch]at e;obtain⟨rfl,rfl⟩:=e;exact⟨B,hand,b,bs,rfl,h,G,H,z⟩
 |(i,x)::parts,σ,σ',B,hand,cs,cs',b,bs,h,G,H,z,e=>by
  simp only[Ts]at e;cases M:c i with
  |none=>rw[M]at e;cases e
  |some q=>
   have⟨off,I⟩:=q;rw[M]at e;simp only at e;split at e
   ·rename_i hc;have⟨Z,hl,hlen⟩:=hc;have⟨N,B',hw,h2,O⟩:=WP h x<|M8 Z;have d:=hw.cells Z;have e0:=lA cs off I;rw[e0]at G;have⟨j,us2,b1,b2,eu,eb,r1,r2⟩:=Bx.app G;have⟨R,n,b3,S,A,T,r3,r4⟩:=Bx.app r2;have J:j.length=off:=by rw[r1.length,AH,CS aG]
    have U:R.length=I:=by rw[r3.length,AH,BH,CS aG]
    have lv:(a.eval x).cells.toList.length=I:=by rw[d.length,hl]
    have la:b.toList.length=cs.length:=by rw[eu,A,An,An,J,U,r4.length,BH];omega
    rw[Ce]at la;have s:=ze (a.eval x).cells.toList 0 off b aG
    have C:b.toList.take (off+0)++(a.eval x).cells.toList++b.toList.drop (off+0+(a.eval x).cells.toList.length)=j++((a.eval x).cells.toList++n):=by
     rw[lv,D5,eu,A,Bw];congr 1
     ·rw[<-J];simp
     ·congr 1;rw[<-Bw,Eb (by simp[J,U]),DR (by simp[J,U])];simp
    rw[C]at s;have D:Bx P w St (N7 cs off<|G7<|CP σ x) (j++((a.eval x).cells.toList++n)) (b1++(N++S)):=by unfold N7;rw[hl,Bw];exact r1.join<|d.join r4
    rw[eb,T]at H z;have W:=AI.1 H;have n2:=AI.1 W.2.1;have k:=AI.1 O;have l:∀g∈b1,g∈hand:=λg f=>z g<|AD _ f
    have m:∀g∈S,g∈hand:=λg f=>z g<|AB _<|AB _ f
    have⟨B2,u,F,X,hf,h3,h4,h5,h6⟩:=kH c parts (DB σ x) σ' B' (hand++N) (N7 cs off<|G7<|CP σ x) cs' (j++((a.eval x).cells.toList++n)).toArray (b1++(N++S)) h2 D
     (AI.2 ⟨W.1,AI.2 ⟨k.2.1,n2.2.1,λx L y v e=>k.2.2 y (m y v) x L e.symm⟩,λx L y v e=>by
      rcases Al.1 v with v|v
      ·exact k.2.2 x (l x L) y v e
      ·exact W.2.2 x L y (AB _ v) e⟩)
     (λg f=>by
      rcases Al.1 f with f|f
      ·exact AD _<|l g f
      ·rcases Al.1 f with f|f
       ·exact AB _ f
       ·exact AD _ (m g f)) e
    refine⟨B2,u,F,X,?_,h3,h4,h5,h6⟩;simp only[AP,Instr.fill,M];have Y:(a.eval x).cells.size=I:=by rw[<-lv,Ce]
    rw[AA (by simp[Y];omega)];have hz:(Array.foldl (λcs (x:Value×Nat)=>cs.setIfInBounds (off+x.2) x.1) b (a.eval x).cells.zipIdx)=(j++((a.eval x).cells.toList++n)).toArray:=by rw[<-Array.foldl_toList,Array.toList_zipIdx];exact s
    rw[<-hf];congr 1
   ·cases e
end
end
section
section
variable {P:Program}{nt:Nat}{base:Bs}{bx:zN}{St St' St0:Nat->Nat->Prop}{B:Nat->zN}{hand:zN}{σ σ':PS}{a:Act}{w w' w0:World}{K:PS->Prop}{Q:Exit->Act->World->Prop}{o:Oper}
def jn(parts:Array (Nat×Operand))(f:Operand->Value):(parts.map λ(i,x)=>(i,f x)).toList=parts.toList.map λp=>(p.1,f p.2):=nF
def nl(b:List Field)(c:∀f∈b,0 < Wl P f.type):(b.mapM λf=>do pure (f.offset,<-Go.sizeOf f.type):Sem (List<|Nat×Nat)).run P w=.ok (b.map λf=>(f.offset,Wl P f.type)) w:=by
 induction b with
 |nil=>rfl
 |cons f b d=>
  have e:(Go.sizeOf f.type).run P w=.ok (Wl P f.type) w:=by
   have:=c f nF;unfold Wl at *;cases hi:P.info? f.type with
   |none=>rw[hi]at this;simp at this
   |some i=>simp[Go.sizeOf,typeInfo,hi]
  simp only[List.mapM_cons,BC,e,Bg,BW,d (λf g=>c f<|by simp[g])];rfl
def uq{tb}(m:LB P tb){t:TypeId}{n:Nat}{z:List V}{c:List (Nat×Nat)}{parts:Array (Nat×Operand)}{d:Nat}{cs:List V}(p:o.op=.build t parts)(D:tb t=some (.st n z c))
  (q:Ts (λi=>c[i]?) parts.toList σ z=some (σ',cs)) (F:o.dst=some d) (G:d < nt) (H:d∉bx) (I:K (upd σ' d<|.agg cs)):W8 P nt bx base St0 w0 o σ K:=by
 rintro a w Q ⟨St,B,h,J,r,L⟩;have⟨i,e,C,hi,_,s,u,M,j,k,_⟩:=m _ _ D;have⟨B',hand',b,l,N,O,R,S,T⟩:=kH (λi=>c[i]?) parts.toList σ σ' B [] z cs e [] h (u w St) AZ nF q;have v:(C.mapM λf=>do pure (f.offset,<-Go.sizeOf f.type):Sem (Array<|Nat×Nat)).run P w=.ok c.toArray w:=by have:=nl (P:=P) (w:=w) C.toList (λf q=>by have:=k (f.offset,Wl P f.type) (by rw[<-j];exact CE q);exact this);rw[j]at this;rw[JR,Sem.run_map,this];rfl
 have U:(execOp a.eval o).run P w=.ok (.value<|.agg b) w:=by
  have y:(zeroValue t).run P w=.ok (.agg e) w:=by simp[zeroValue,typeInfo,hi,s]
  have g:Instr.fill (λx=>c.toArray[x]?) (Value.agg e).cells (parts.map λ(i,x)=>(i,a.eval x)).toList=some b:=by
   rw[jn];have:(λ(x:Nat)=>c.toArray[x]?)=λ(i:Nat)=>c[i]?:=by funext x;simp
   rw[this];exact N
  simp only[execOp,p,Instr.build,BC,y,Bg,BO M,v,g,BW]
 have A:Ow P w St (.agg cs) (.agg b) l:=⟨b.toList,nF,R⟩;refine NI U ⟨_,I,St,upd B' d l,?_,J,r,L⟩;rw[F];exact O.put G H A.slot S T A.Ek.1 A.SR
def UZ(b:List V)(es n:Nat):List V:=(List.range<|n * es).map λi=>b.getD (i % es) .undef
def jv:∀(cs:List V) (us:List Value),cs.length=us.length->(∀(j:Nat) (c:V) (u:Value),cs[j]? =some c->us[j]? =some u->c.D3=true∧Ow P w St c u [])->Bx P w St cs us []
 |[],us,b,_=>⟨BG b.symm,rfl⟩
 |c::cs,[],b,_=>by simp at b
 |c::cs,u::us,b,h=>by have⟨d,e⟩:=h 0 c u rfl rfl;exact⟨u,us,[],[],rfl,rfl,d,e,jv cs us (by simpa using b)<|λj x y f g=>h (j+1) x y (by simpa using f)<|by simpa using g⟩
def jw:∀{cs:List V}{us:List Value},Bx P w St cs us []->∀(j:Nat) (c:V) (u:Value),cs[j]? =some c->us[j]? =some u->c.D3=true∧Ow P w St c u []
 |[],_,_,j,c,u,e,_=>by simp at e
 |d::cs,_,⟨x,h,b1,b2,g,e2,e,i,k⟩,j,c,u,f,b=>by
  have l:b1=[]∧b2=[]:=by simpa using e2.symm
  obtain⟨rfl,rfl⟩:=l;cases j with
  |zero=>rw[g]at b;simp only[CB,Av]at f b;subst f b;exact⟨e,i⟩
  |succ j=>rw[g]at b;exact jw k j c u (by simpa using f) (by simpa using b)
def l9{d:List V}{us:Array Value}(g:Bx P w St d us.toList []){es:Nat}(f:0 < es)(l:d.length=es)(n:Nat):Bx P w St (UZ d es n) ((Array.range (n * es)).map (us[· % us.size]!)).toList []:=by
 have b:us.size=es:=by rw[<-l,<-g.length,Ce]
 refine jv _ _ (by simp[UZ]) (λj c u e i=>?_)
 have k:j < n * es:=by
  rcases Bi j (n * es)with h|h
  ·exact h
  ·rw[Bt (by simp[UZ];omega)]at e;cases e
 have m:j % es < es:=O6 _ f
 have p:d[j % es]? =some c:=by
  simp only[UZ,BS,C8 k,BP,Av]at e
  rw[<-e,Af aG,AF,Af aG]
  rfl
 have e2:us.toList[j % es]? =some u:=by
  simp only[Kh,Array.toList_range,BS,C8 k,BP,Av]at i
  rw[<-i,b]
  simp[b,m]
 exact jw g (j % es) c u p e2
def kB{t e es eb ez}(h:N8 P t (.sl e es eb ez)):Wl P e=es:=by have⟨i,j,zv,_,_,_,_,c,_,b,_⟩:=h;simp[Wl,c,b]
def gC{e es n d cs arr bs}(hcsz:Wl P e=es)(hes0:0 < es)(h2:HSim P nt bx base St B hand σ a w)(h3:Bx P w St cs arr.toList bs)(h4:bs.Nodup)(h5:∀g∈bs,g∈hand)
  (hb:BelowK base.K w0 w) (hst:∀b o,base b->(St b o↔St0 b o)) (hz:∀b,base b->b < w.heap.size) (hcs:cs.length=n * es) (hnl:n<=lim) (hd:d < nt) (hx:d∉bx):
  Rel P nt bx base St0 w0 (upd σ d<|.own e n cs) (a.put (some d)<|.slice (some ⟨w.heap.size,0,none⟩) n n) (w.alloc<|.cells arr e):=by
 have hsz:arr.size=n * es:=by rw[<-Ce,h3.length,hcs]
 have hm:n<=maxLen:=by unfold maxLen;unfold lim at hnl;omega
 have hst1:∀b o,b < w.heap.size->((St b o∨(b=w.heap.size∧o < n * es))↔St b o):=λb o hlt=>⟨λh=>h.elim id (λh=>by omega),.inl⟩
 have h6:=h2.alloc (St':=λb o=>St b o∨(b=w.heap.size∧o < n * es)) hz (.cells arr e) hst1 (λb o hs=>by
  rcases hs with hs|hs
  ·exact Ck<|h2.st b o hs
  ·omega)
 have h7:=cF (St':=λb o=>St b o∨(b=w.heap.size∧o < n * es)) h2 h3 h5 (.cells arr e) hst1;have hgn:w.heap.size∉bs:=λhm=>by have:=(h2.hrange _<|h5 _ hm).2;omega
 have hv:Ow P (w.alloc<|.cells arr e) (λb o=>St b o∨(b=w.heap.size∧o < n * es)) (.own e n cs) (.slice (some ⟨w.heap.size,0,none⟩) n n) (w.heap.size::bs):=by
  refine⟨hnl,arr.toList,bs,?_,h7,rfl,?_,?_⟩
  ·rw[hcsz];exact World.ownsRow_lit w arr n (BF _) hm hsz
  ·intro g hg o';simp only[Value.ownBlock,Av]at hg;subst hg;rw[hcsz];exact⟨λh'=>h'.elim (λh'=>absurd (h2.st _ _ h') aG) (·.2),λh'=>.inr ⟨rfl,h'⟩⟩
  ·intro hn0;subst hn0;exact BG (by simpa using hcs)
 refine⟨(λb o=>St b o∨(b=w.heap.size∧o < n * es)),upd B d<|w.heap.size::bs,?_,hb.alloc hz _,?_,au hz _⟩
 ·exact h6.put hd hx hv.slot (BI.2 ⟨hgn,h4⟩) (by
   intro g hg;rcases AL.1 hg with rfl|hg
   ·simp
   ·exact AD _ (h5 g hg)) hv.Ek.1 hv.SR
 ·intro b o' hlt;rw[<-hst b o' hlt];exact hst1 b o'<|hz b hlt
def gf{tb:Tb}(c:LB P tb){t e:TypeId}{es N n:Nat}{u:List V}{parts:Array (Nat×Operand)}{d:Nat}{cs:List V}(g:o.op=.buildSlice t n parts)(I:tb t=some (.sl e es N u))
  (hn:n * es<=16777216) (O:Ts (λi=>some (i * es,es)) parts.toList σ (UZ u es n)=some (σ',cs)) (v:cs.length=n * es) (R:o.dst=some d) (S:d < nt) (T:d∉bx) (U:K (upd σ' d (.own e n cs))):W8 P nt bx base St0 w0 o σ K:=by
 rintro a w Q ⟨St,B,h,W,y,X⟩
 have k:=kB (c _ _ I)
 obtain⟨i,j,zv,hi,_,_,J,L,z,A,Y,C,D,b,_⟩:=c _ _ I
 have l:=l9 (C w St) b D n
 obtain⟨B',hand',m,Z,F,h2,h3,h4,h5⟩:=kH (λi=>some (i * es,es)) parts.toList σ σ' B [] (UZ u es n) cs ((Array.range (n * es)).map (zv.cells[· % zv.cells.size]!)) [] h l AZ nF O
 have hr:(execOp a.eval o).run P w=.ok (.value (.slice (some ⟨w.heap.size,0,none⟩) n n)) (w.alloc (.cells m e)):=by
  have q:(Go.sizeOf e).run P w=.ok es w:=by simp[Go.sizeOf,typeInfo,L,A]
  have G:(zeroValue e).run P w=.ok zv w:=by simp[zeroValue,typeInfo,L,z]
  have r:¬(n * es > 2 ^ 24):=aG
  have s:(parts.map λ(i,x)=>(i,a.eval x)).toList=parts.toList.map λp=>(p.1,a.eval p.2):=jn _ _
  by_cases H:n * es=0
  ·have M:∀f:Nat->Value,(Array.range (n * es)).map f= #[]:=by intro f;rw[H];simp
   rw[M]at F
   simp only[execOp,g,Instr.buildSlice,BC,Bg,BO J,q,r,Ed,Az H,M,s,F,BW,newRow,run_newObj]
   rfl
  ·simp only[execOp,g,Instr.buildSlice,BC,Bg,BO J,q,r,Ed,AA H,G,s,F,BW,newRow,run_newObj]
   rfl
 refine NI hr ⟨_,U,?_⟩
 rw[R]
 exact gC k b h2 h3 h4 h5 W y X v (by unfold lim;have:n<=n * es:=Nat.le_mul_of_pos_right _ b;omega) S T
def yg{tb:Tb}(f:LB P tb){t e:TypeId}{es q:Nat}{H:List V}{x y:Operand}{d n:Nat}{k s:IntKind}(u:o.op=.makeSlice t x y)(I:tb t=some (.sl e es q H))(N:CP σ x=.int k n)(O:CP σ y=.int s n)(v:n<=lim)
  (R:o.dst=some d) (S:d < nt) (r:d∉bx) (T:K (upd σ d (.own e n (UZ H es n)))):W8 P nt bx base St0 w0 o σ K:=by
 rintro a w Q ⟨St,B,h,U,z,W⟩
 have g:=kB (f _ _ I)
 obtain⟨i,j,zv,hi,_,_,X,Y,A,C,D,F,G,c,J,l⟩:=f _ _ I
 have m:=l9 (F w St) c G n
 have Z:a.eval x=.int k n:=by obtain⟨b,r⟩:=OB h x;rw[N]at r;exact Ik r
 have e2:a.eval y=.int s n:=by obtain⟨b,L⟩:=OB h y;rw[O]at L;exact Ik L
 have hr:(execOp a.eval o).run P w=.ok (.value (.slice (some ⟨w.heap.size,0,none⟩) n n)) (w.alloc (.cells ((Array.range (n * es)).map (zv.cells[· % zv.cells.size]!)) e)):=by
  have p:(j.bytes:Int) * (n:Int)<=281474976710656:=by
   rw[D]
   have h3:q * n<=128 * 1099511627776:=Hr l v
   have h4:((q * n:Nat):Int)=(q:Int) * n:=nF
   rw[<-h4]
   omega
  have M:=run_make (P:=P) w t e j zv X Y A k s n n aG (Gb _) p (by unfold lim at v;omega)
  simp only[Ax,C]at M
  simp only[execOp,u,Z,e2,BC,M,Bg,BW]
  rfl
 refine NI hr ⟨_,T,?_⟩
 rw[R]
 exact gC g c h m AZ nF U z W (by simp[UZ]) v S r
def ZW:V->List V
 |.own _ _ ds=>ds
 |.dat _ ds=>ds.map WS
 |.arg _ ds=>ds.map WS
 |.pin _ _ ds=>ds.map WS
 |_=>[]
def zW{c v bs m es ds}(h:Ow P w St c v bs)(hc:Mz c=some (m,ds))(hl:ds.length=m * es)(hes:0 < es)(hn:bs.Nodup):
  ∃us b2,QN w es v m us∧Bx P w St (ZW c) us b2∧b2.Nodup∧∀g∈b2,g∈bs:=by
 have key:∀us:List Value,Rd w St (.dat m ds) v->us.length=ds.length->(∀b off A cp,v=.slice A m cp->A=some ⟨b,off,none⟩->El w St b off ds->∀(j:Nat) (u:Value),us[j]? =some u->w.cell? ⟨b,off+j,none⟩=some u)->QN w es v m us:=by intro us hr hlu hcell;obtain⟨hm,A,cp,rfl,_,hrow,h0⟩:=hr;refine⟨A,cp,rfl,by unfold maxLen at hm;omega,by rw[hlu,hl],λhp=>?_⟩;obtain⟨b,off,rfl,hrr⟩:=hrow hp;exact⟨b,off,rfl,hcell b off _ cp rfl rfl hrr⟩
 cases c with
 |own e n cs=>
  simp only[Mz,Av,Ch]at hc;obtain⟨rfl,rfl⟩:=hc;have hrd:=Ow.rd _ h rfl;have⟨hm,xs,bs',h1,h2,h3,h4,h5⟩:=h;refine⟨xs,bs',?_,h2,?_,?_⟩
  ·have hx:=QN.VA h1;have⟨A,cp,e1,e2,e3,e4⟩:=hx;exact⟨A,cp,e1,e2,by rw[h2.length,hl],e4⟩
  ·rw[h3]at hn;exact(AI.1 hn).2.1
  ·intro g hg;rw[h3];exact AB _ hg
 |dat n cs=>
  simp only[Mz,Av,Ch]at hc;obtain⟨rfl,rfl⟩:=hc;obtain⟨rfl,hr⟩:=h;have hr':=hr;obtain⟨hm,A,cp,rfl,hcp,hrow,h0⟩:=hr;rcases DI n with hz|hp
  ·have:=h0 hz;subst this;subst hz;exact⟨[],[],⟨A,cp,rfl,aG,nF,λh=>absurd h aG⟩,⟨rfl,rfl⟩,AZ,nF⟩
  ·obtain⟨b,off,rfl,hrr⟩:=hrow hp;have⟨us,h3,h4⟩:=hrr.list;refine⟨us,[],⟨_,cp,rfl,by unfold maxLen at hm;omega,by rw[h3.length,hl],λ_=>⟨b,off,rfl,h4⟩⟩,Bx.x7 _ h3,AZ,nF⟩
 |arg n cs=>
  have hr:Rd w St (.dat m ds) v:=Ny (P:=P) (t:=λ_=>.bool true) hc h.slot;simp only[Mz,Av,Ch]at hc;obtain⟨rfl,rfl⟩:=hc;obtain⟨rfl,_⟩:=h;have hr':=hr;obtain⟨hm,A,cp,rfl,hcp,hrow,h0⟩:=hr;rcases DI n with hz|hp
  ·have:=h0 hz;subst this;subst hz;exact⟨[],[],⟨A,cp,rfl,aG,nF,λh=>absurd h aG⟩,⟨rfl,rfl⟩,AZ,nF⟩
  ·obtain⟨b,off,rfl,hrr⟩:=hrow hp;have⟨us,h3,h4⟩:=hrr.list;refine⟨us,[],⟨_,cp,rfl,by unfold maxLen at hm;omega,by rw[h3.length,hl],λ_=>⟨b,off,rfl,h4⟩⟩,Bx.x7 _ h3,AZ,nF⟩
 |pin u n cs=>
  have hr:Rd w St (.dat m ds) v:=Ny (P:=P) (t:=λ_=>.bool true) hc h.slot;simp only[Mz,Av,Ch]at hc;obtain⟨rfl,rfl⟩:=hc;obtain⟨rfl,_⟩:=h;have hr':=hr;obtain⟨hm,A,cp,rfl,hcp,hrow,h0⟩:=hr;rcases DI n with hz|hp
  ·have:=h0 hz;subst this;subst hz;exact⟨[],[],⟨A,cp,rfl,aG,nF,λh=>absurd h aG⟩,⟨rfl,rfl⟩,AZ,nF⟩
  ·obtain⟨b,off,rfl,hrr⟩:=hrow hp;have⟨us,h3,h4⟩:=hrr.list;refine⟨us,[],⟨_,cp,rfl,by unfold maxLen at hm;omega,by rw[h3.length,hl],λ_=>⟨b,off,rfl,h4⟩⟩,Bx.x7 _ h3,AZ,nF⟩
 |_=>cases hc
def ge{tb}(htb:LB P tb){t e:TypeId}{es eb:Nat}{ez:List V}{x y:Operand}{d n m:Nat}{cs ds:List V}(hop:o.op=.call {callee:=.builtin .append,args:= #[x,y],argTypes:= #[t,t]})(ht:tb t=some (.sl e es eb ez))
  (h1:CP σ x=.own e n cs) (h2:Mz (CP (DB σ x) y)=some (m,ds)) (hds:ds.length=m * es) (hlim:n+m<=lim) (ho:o.dst=some d) (hd:d < nt) (hx:d∉bx)
  (hk:K (upd (DB (DB σ x) y) d<|.own e (n+m)<|cs++ZW (CP (DB σ x) y))):W8 P nt bx base St0 w0 o σ K:=by
 rintro a w Q ⟨St,B,h,hb,hst,hz⟩;have hcsz:=kB<|htb _ _ ht;have⟨i,j,zv,hi,_,_,hu,hj,hjz,hes,heb,hzl,hlz,hes0,heb0,heb1⟩:=htb _ _ ht;have⟨b1,B1,w1,q1,n1⟩:=WP h x (by rw[h1];rfl);rw[BX]at q1 n1;have hyv:(CP (DB σ x) y).isVal=true:=by cases hc:CP (DB σ x) y<;>rw[hc]at h2<;>first|rfl|cases h2
 have⟨b2,B2,w2,q2,n2⟩:=WP q1 y hyv;rw[h1]at w1;have⟨hnl,xs,bs1,r1,r2,r3,r4,r5⟩:=w1;rw[hcsz]at r1 r4;have n12:=AI.1 n2;have⟨us,b3,s1,s2,s3,s4⟩:=zW w2 h2 hds hes0 n12.2.1;have hzs:zv.cells.size=es:=by rw[<-hlz,<-(hzl w St).length,Ce]
 have hbytes:(n+m) * eb<=140737488355328:=Bm (Hr hlim heb1) uY;have⟨v',w',hrun,o1,o2,o3,o4⟩:=yO (P:=P) w t o.type e zv es eb hu (by simp[hj,hjz,hes,heb]) hzs hes0 heb0 (a.eval x) n xs r1 (a.eval y) m us s1 ((Bx.rdL _ s2).oneCell) hbytes;have hr:(execOp a.eval o).run P w=.ok (.value v') w':=by simp only[execOp,hop,resolve,invoke,builtin,BC,BW,Bg,Kj,AP,DE,hrun]
 have hxb:∀g,(a.eval x).ownBlock=some g->g∈b1:=λg hg=>by rw[r3,hg];simp
 have hext:Ext St w w':=by
  intro b o' hs;by_cases e1:some b=(a.eval x).ownBlock
  ·exact o4 b e1.symm o'<|(r4 b e1.symm o').1 hs
  ·exact Co<|o2.block b (h.st b o' hs) e1
 have hst1:∀g,g < w.heap.size->(∀q,(a.eval x).ownBlock=some q->g≠q)->∀o',(St g o'∨(v'.ownBlock=some g∧o' < (n+m) * es))↔St g o':=by
  intro g hg hq o';refine⟨λhh=>hh.elim id<|λhh=>?_,.inl⟩;rcases o3 with e1|e1
  ·rw[hh.1]at e1;exact absurd rfl<|hq g e1.symm
  ·rw[hh.1]at e1;simp only[Av]at e1;omega
 have hheap:∀g,g < w.heap.size->(∀q,(a.eval x).ownBlock=some q->g≠q)->w'.heap[g]? =w.heap[g]?:=λg hg hq=>o2.block g hg<|λe1=>hq g e1.symm rfl
 have h3:=q2.world (w':=w') (St':=λb o'=>St b o'∨(v'.ownBlock=some b∧o' < (n+m) * es)) (λb o' hs=>.inl hs) hext o2.size
  (λs g hg=>by
   have hlt:=(q2.range s g hg).2;have hne:∀q,(a.eval x).ownBlock=some q->g≠q:=λq hq e1=>q2.hapart s g hg<|AD _<|e1 ▸ hxb q hq
   exact⟨hheap g hlt hne,hst1 g hlt hne⟩)
  (λb o' hs=>by
   rcases hs with hs|hs
   ·exact BV (h.st b o' hs) o2.size
   ·exact(o1.lt b hs.1).2)
 have hn1:((a.eval x).ownBlock.toList++bs1).Nodup:=by rw[<-r3];exact n12.1
 have hn1':=AI.1 hn1;have hrng:∀g,g∈b1++b2->g < w.heap.size:=λg hg=>(q2.hrange g hg).2
 have hbs1:∀g∈bs1,g∈b1:=λg hg=>by rw[r3];exact AB _ hg
 have hne1:∀g∈bs1,∀q,(a.eval x).ownBlock=some q->g≠q:=λg hg q hq e1=>hn1'.2.2 q (by rw[hq];simp) g hg e1.symm
 have hne3:∀g∈b3,∀q,(a.eval x).ownBlock=some q->g≠q:=λg hg q hq e1=>n12.2.2 q (hxb q hq) g (s4 g hg) e1.symm
 have t1:=Bx.mono (w':=w') (St':=λb o'=>St b o'∨(v'.ownBlock=some b∧o' < (n+m) * es)) (λb o' hs=>.inl hs) hext _ r2 (λg hg=>by have hlt:=hrng g<|AD _<|hbs1 g hg;exact⟨hheap g hlt (hne1 g hg),hst1 g hlt (hne1 g hg)⟩);have t2:=Bx.mono (w':=w') (St':=λb o'=>St b o'∨(v'.ownBlock=some b∧o' < (n+m) * es)) (λb o' hs=>.inl hs) hext _ s2 (λg hg=>by have hlt:=hrng g<|AB _<|s4 g hg;exact⟨hheap g hlt (hne3 g hg),hst1 g hlt (hne3 g hg)⟩)
 have hv:Ow P w' (λb o'=>St b o'∨(v'.ownBlock=some b∧o' < (n+m) * es)) (.own e (n+m)<|cs++ZW (CP (DB σ x) y)) v' (v'.ownBlock.toList++(bs1++b3)):=by
  refine⟨hlim,xs++us,bs1++b3,by rw[hcsz];exact o1,t1.join t2,rfl,?_,?_⟩
  ·intro g hg o';rw[hcsz];refine⟨λhh=>?_,λhh=>.inr ⟨hg,hh⟩⟩;rcases hh with hh|hh
   ·rcases o3 with e1|e1
    ·have:=(r4 g (by rw[<-e1];exact hg) o').1 hh;exact BV this<|Cd _ aG
    ·rw[hg]at e1;simp only[Av]at e1;have:=h.st g o' hh;omega
   ·exact hh.2
  ·intro h0;have hn0:n=0:=aG;have hm0:m=0:=aG;rw[r5 hn0];have hl0:us.length=0:=by have⟨_,_,_,_,hl0,_⟩:=s1;rw[hl0,hm0];simp
   rw[s2.length]at hl0;rw[BG hl0];rfl
 have hnd3:(bs1++b3).Nodup:=AI.2 ⟨hn1'.2.1,s3,λp hp q hq e1=>n12.2.2 p (hbs1 p hp) q (s4 q hq) e1⟩
 have fin:∀hand2,HSim P nt bx base (λb o'=>St b o'∨(v'.ownBlock=some b∧o' < (n+m) * es)) B2 hand2 (DB (DB σ x) y) a w'->(∀g∈v'.ownBlock.toList,g∈hand2)->(∀g∈b1++b2,g∈hand2)->(∀g∈v'.ownBlock.toList,g∉bs1++b3)->
   Rel P nt bx base St0 w0 (upd (DB (DB σ x) y) d<|.own e (n+m)<|cs++ZW (CP (DB σ x) y)) (a.put (some d) v') w':=by
  intro hand2 g1 g2 g3 g4;refine⟨_,upd B2 d<|v'.ownBlock.toList++(bs1++b3),g1.put hd hx hv.slot ?_ ?_ hv.Ek.1 hv.SR,?_,?_,Va hz o2.size⟩
  ·refine AI.2 ⟨by cases v'.ownBlock<;>simp,hnd3,λp hp q hq e1=>g4 p hp<|e1 ▸ hq⟩
  ·intro g hg;rcases Al.1 hg with hg|hg
   ·exact g2 g hg
   ·rcases Al.1 hg with hg|hg
    ·exact g3 g<|AD _<|hbs1 g hg
    ·exact g3 g<|AB _<|s4 g hg
  ·exact hb.grown o2 hz<|λg hg=>(q2.hrange g<|AD _<|hxb g hg).1
  ·intro b o' hlt;rw[<-hst b o' hlt];exact hst1 b (hz b hlt) (λq hq e1=>(q2.hrange q<|AD _<|hxb q hq).1<|e1 ▸ hlt) o'
 refine NI hr ⟨_,hk,?_⟩;rw[ho];rcases o3 with e1|e1
 ·refine fin (b1++b2) h3 (λg hg=>?_) (λ_ h=>h) (λg hg hm=>?_)
  ·rw[e1]at hg;rw[r3];exact AD _<|AD _ hg
  ·rw[e1]at hg;have hq:(a.eval x).ownBlock=some g:=by simpa using hg
   rcases Al.1 hm with hm|hm
   ·exact hne1 g hm g hq rfl
   ·exact hne3 g hm g hq rfl
 ·have hlt:=(o1.lt _ e1).2
  have h4:=h3.fresh (bs:=[w.heap.size]) nF (by intro g hg;simp only[As]at hg;subst hg;exact⟨xi hz,hlt⟩)
   (by intro s g hg hm;simp only[As]at hm;have:=(q2.range s g hg).2;omega)
   (by intro g hg hm;simp only[As]at hm;have:=hrng g hg;omega)
  refine fin _ h4 (λg hg=>?_) (λg hg=>AD _ hg)<|λg hg hm=>?_
  ·rw[e1]at hg;exact AB _ (by simpa using hg)
  ·rw[e1]at hg;have hq:g=w.heap.size:=by simpa using hg
   have:g < w.heap.size:=by
    rcases Al.1 hm with hm|hm
    ·exact hrng g<|AD _<|hbs1 g hm
    ·exact hrng g<|AB _<|s4 g hm
   omega
end
end
section
section
variable {P:Program}{nt:Nat}{base:Bs}{bx:zN}{St St' St0:Nat->Nat->Prop}{B:Nat->zN}{hand:zN}{σ σ':PS}{a:Act}{w w' w0:World}{K:PS->Prop}{Q:Exit->Act->World->Prop}{o:Oper}
def kill(D:zN)(σ:PS):PS:=λs=>if D.contains s=true then .undef else match Ex (σ s)with
 |some b=>if D.contains b=true then .undef else σ s
 |none=>σ s
def U9(D:zN)(σ:PS)(s:Nat):kill D σ s=.undef∨kill D σ s=σ s:=by
 unfold kill;split
 ·exact .inl rfl
 ·split
  ·split
   ·exact .inl rfl
   ·exact .inr rfl
  ·exact .inr rfl
def Wt{D σ s}(h:D.contains s=true):kill D σ s=.undef:=by unfold kill;rw[Az h]
def nc{D σ s b}(h:Ex (kill D σ s)=some b):Ex (σ s)=some b∧D.contains b=false:=by
 rcases U9 D σ s with e|e
 ·rw[e]at h;cases h
 ·have c:=h;rw[e]at c;refine⟨c,?_⟩;unfold kill at h;split at h
  ·cases h
  ·rw[c]at h;simp only at h;split at h
   ·cases h
   ·rename_i d;simpa using d
def jh{D σ s cs}(h:DC (σ s)=some cs)(b:D.contains s=false):kill D σ s=σ s:=by
 have c:Ex (σ s)=none:=by cases d:σ s<;>rw[d]at h<;>first|rfl|cases h
 unfold kill;rw[AA (by rw[b];simp),c]
def Zw(D:zN)(h:HSim P nt bx base St B hand σ a w):∃B',HSim P nt bx base St B' hand (kill D σ) a w∧(∀s,D.contains s=true->B' s=[])∧(∀s,B' s=[]∨B' s=B s)∧∀s,D.contains s=false->kill D σ s=σ s->B' s=B s:=by
 have j:∀s,∃b:zN,CC P w St (tm a) (kill D σ s) (tm a s) b∧(b=[]∨b=B s)∧(D.contains s=true->b=[])∧(D.contains s=false->kill D σ s=σ s->b=B s):=by
  intro s;rcases U9 D σ s with e|e
  ·exact⟨[],by rw[e];rfl,.inl rfl,λ_=>rfl,λ_ e2=>by have q:=h.slot s;rw[<-e2,e]at q;exact(show B s=[]from q).symm⟩
  ·by_cases k:D.contains s=true
   ·exact⟨[],by rw[Wt k];rfl,.inl rfl,λ_=>rfl,λe=>by rw[k]at e;cases e⟩
   ·exact⟨B s,by rw[e];exact h.slot s,.inr rfl,λe=>absurd e k,λ_ _=>rfl⟩
 have⟨B',i⟩:=Classical.axiomOfChoice j;have r:=λs=>(i s).1
 have l:=λs=>(i s).2.1
 have c:∀s,∀g∈B' s,g∈B s:=by
  intro s g d;rcases l s with e|e
  ·rw[e]at d;simp at d
  ·rw[e]at d;exact d
 refine⟨B',?_,λs=>(i s).2.2.1,l,λs=>(i s).2.2.2⟩;exact
 {h with
  slot:=r
  boxes:=λs cs e=>by
   rcases U9 D σ s with m|m
   ·rw[m]at e;cases e
   ·rw[m]at e;exact h.boxes s cs e
  crefs:=λs b e=>by have⟨u,e2⟩:=nc e;have⟨cs,f⟩:=h.crefs s b u;exact⟨cs,by rw[jh f e2];exact f⟩
  nodup:=λs=>by
   rcases l s with e|e
   ·rw[e];exact AZ
   ·rw[e];exact h.nodup s
  apart:=λs t n g d p=>h.apart s t n g (c s g d)<|c t g p
  hapart:=λs g d=>h.hapart s g<|c s g d
  range:=λs g d=>h.range s g (c s g d)}
def Yn(D:zN)(h:HSim P nt bx base St B hand σ a w):∃B',HSim P nt bx base St B' hand (kill D σ) a w∧(∀s,D.contains s=true->B' s=[])∧∀s,B' s=[]∨B' s=B s:=
 let⟨B',b,c,d,_⟩:=Zw D h
 ⟨B',b,c,d⟩
def HSim.giveUp(h:HSim P nt bx base St B hand σ a w)(p:Nat):∃B',HSim P nt bx base St B' (hand++B p) (kill [p] σ) a w∧B' p=[]:=by
 have⟨B',j,i,k⟩:=Yn [p] h
 have c:∀s,∀g∈B' s,g∈B s∧s≠p:=by
  intro s g b;have f:s≠p:=λe=>by subst e;rw[i s nF]at b;simp at b
  rcases k s with e|e
  ·rw[e]at b;simp at b
  ·rw[e]at b;exact⟨b,f⟩
 exact⟨B',
 {j with
  hnodup:=AI.2 ⟨h.hnodup,h.nodup p,λx l y m e=>by subst e;exact h.hapart p x m l⟩
  hapart:=λs g b d=>by
   have⟨g1,g2⟩:=c s g b;rcases Al.1 d with d|d
   ·exact h.hapart s g g1 d
   ·exact h.apart s p g2 g g1 d
  hrange:=λg b=>by
   rcases Al.1 b with b|b
   ·exact h.hrange g b
   ·exact h.range p g b},i p nF⟩
def HSim.swap(h:HSim P nt bx base St B hand σ a w){s:Nat}(hx:s∈bx)(hno:∀q,Ex (σ q)≠some s)(hB:B s=[]){c:V}{bs:zN}(hc:CC P w St (tm a) c (tm a s) bs)(hrf:Ex c=none)(hn:bs.Nodup)(hs:∀g∈bs,g∈hand):
  HSim P nt bx base St (upd B s bs) [] (upd σ s c) a w:=by
 refine
 {h with
  slot:=λq=>by
   by_cases e:q=s
   ·subst e;rw[upd_same,upd_same];exact hc
   ·rw[upd_ne _ _ e,upd_ne _ _ e];exact h.slot q
  boxes:=λq cs e=>by
   by_cases eq:q=s
   ·subst eq;exact hx
   ·rw[upd_ne _ _ eq]at e;exact h.boxes q cs e
  crefs:=λq b e=>by
   by_cases eq:q=s
   ·subst eq;rw[upd_same,hrf]at e;cases e
   ·rw[upd_ne _ _ eq]at e;have⟨cs,hcs⟩:=h.crefs q b e;exact⟨cs,by rw[upd_ne _ _ (λeb=>by subst eb;exact hno q e)];exact hcs⟩
  nodup:=λq=>by
   by_cases e:q=s
   ·subst e;rw[upd_same];exact hn
   ·rw[upd_ne _ _ e];exact h.nodup q
  apart:=λq r hqr g hg hg'=>by
   by_cases e:q=s
   ·subst e;rw[upd_same]at hg;rw[upd_ne _ _ (Ne.symm hqr)]at hg';exact h.hapart r g hg'<|hs g hg
   ·rw[upd_ne _ _ e]at hg;by_cases e':r=s
    ·subst e';rw[upd_same]at hg';exact h.hapart q g hg<|hs g hg'
    ·rw[upd_ne _ _ e']at hg';exact h.apart q r hqr g hg hg'
  hnodup:=AZ
  hapart:=λ_ _ _=>by simp
  range:=λq g hg=>by
   by_cases e:q=s
   ·subst e;rw[upd_same]at hg;exact h.hrange g<|hs g hg
   ·rw[upd_ne _ _ e]at hg;exact h.range q g hg
  hrange:=by simp}
def p6{s e n cs}(hs:σ s=.uni e n cs)(hr:Rel P nt bx base St0 w0 σ a w):Rel P nt bx base St0 w0 (upd (kill [s] σ) s<|.own e n cs) a w:=by
 have⟨St,B,h,hb,hst,hz⟩:=hr;have hsl:=h.slot s;rw[hs]at hsl;have⟨g,bs',arr,e1,e2,h1,hB,h2,hl,hlen⟩:=hsl;have hx:s∈bx:=h.boxes s cs (by rw[hs];rfl);have hrg:=h.range s g (by rw[hB];simp);have⟨B1,h3,hB1⟩:=h.giveUp s;rw[BX,hB]at h3;have hnd:(g::bs').Nodup:=by have:=h.nodup s;rw[hB]at this;exact this
 have hnd2:=BI.1 hnd;have hgB:∀q,∀k∈B1 q,k≠g:=λq k hk e=>h3.hapart q k hk (by rw[e];simp)
 have hsame:∀k,k≠g->∀o',(St k o'∨(k=g∧o' < n * Wl P e))↔St k o':=λk hk o'=>⟨λhh=>hh.elim id<|λhh=>absurd hh.1 hk,.inl⟩
 have h4:=h3.world (w':=w) (St':=λb o'=>St b o'∨(b=g∧o' < n * Wl P e)) (λb o' hs=>.inl hs) (λ_ _ _=>rfl) (A5 _) (λq k hk=>⟨rfl,hsame k (hgB q k hk)⟩) (λb o' hs=>by
  rcases hs with hs|hs
  ·exact h.st b o' hs
  ·rw[hs.1];exact hrg.2)
 have hrow:=Bx.mono (w':=w) (St':=λb o'=>St b o'∨(b=g∧o' < n * Wl P e)) (λb o' hs=>.inl hs) (λ_ _ _=>rfl) cs h1<|λk hk=>⟨rfl,hsame k<|λe=>hnd2.1<|e ▸ hk⟩
 have harr:arr.size=n * Wl P e:=by rw[<-Ce,h1.length,hlen]
 have hv:Ow P w (λb o'=>St b o'∨(b=g∧o' < n * Wl P e)) (.own e n cs) (tm a s) (g::bs'):=by
  refine⟨hl,arr.toList,bs',?_,hrow,by rw[e1];rfl,λk hk o'=>?_,λh0=>?_⟩
  ·rw[e1];refine⟨by rw[Ce,harr],.inr ⟨g,n,arr,rfl,BF _,e2,A5 _,?_,harr,?_⟩⟩
   ·unfold maxLen;unfold lim at hl;omega
   ·rw[<-harr,<-Ce,AQ]
  ·rw[e1]at hk;simp only[Value.ownBlock,Av]at hk;subst hk;exact⟨λhh=>hh.elim (λhh=>absurd hh<|h2 o') (·.2),λhh=>.inr ⟨rfl,hh⟩⟩
  ·subst h0;exact BG (by simpa using hlen)
 have hno:∀q,Ex (kill [s] σ q)≠some s:=λq hq=>by have:=(nc hq).2;simp at this
 refine⟨_,_,h4.swap hx hno hB1 hv.slot rfl hnd<|λk hk=>hk,hb,?_,hz⟩;intro b o' hlt;rw[<-hst b o' hlt];exact hsame b (λe=>hrg.1<|e ▸ hlt) o'
def uA{tb:Tb}(f:LB P tb){t e:TypeId}{es s:Nat}{v:List V}{x y:Operand}{d n:Nat}{k z:IntKind}(A:o.op=.makeSlice t x y)(O:tb t=some (.sl e es s v))(U:CP σ x=.int k n)(W:CP σ y=.int z n)(C:n<=lim)
  (X:o.dst=some d) (Y:d < nt) (u:d∈bx) (D:SQ+d∉bx) (g:DC (σ d)=none) (Z:K (upd σ d (.uni e n (UZ v es n)))):W8 P nt bx base St0 w0 o σ K:=by
 rintro a w Q ⟨St,B,h,hb,F,G⟩
 have l:=kB (f _ _ O)
 obtain⟨i,j,zv,hi,_,_,hu,hj,H,I,J,L,M,m,R,p⟩:=f _ _ O
 have q:=l9 (L w St) m M n
 have e1:a.eval x=.int k n:=by obtain⟨b,u⟩:=OB h x;rw[U]at u;exact Ik u
 have e2:a.eval y=.int z n:=by obtain⟨b,S⟩:=OB h y;rw[W]at S;exact Ik S
 have hr:(execOp a.eval o).run P w=.ok (.value (.slice (some ⟨w.heap.size,0,none⟩) n n)) (w.alloc (.cells ((Array.range (n * es)).map (zv.cells[· % zv.cells.size]!)) e)):=by
  have r:(j.bytes:Int) * (n:Int)<=281474976710656:=by
   rw[J]
   have h3:s * n<=128 * 1099511627776:=Hr p C
   have h4:((s * n:Nat):Int)=(s:Int) * n:=nF
   rw[<-h4]
   omega
  have T:=run_make (P:=P) w t e j zv hu hj H k z n n aG (Gb _) r (by unfold lim at C;omega)
  simp only[Ax,I]at T
  simp only[execOp,A,e1,e2,BC,T,Bg,BW]
  rfl
 have h6:=h.alloc (St':=St) G (.cells ((Array.range (n * es)).map (zv.cells[· % zv.cells.size]!)) e) (λ_ _ _=>Ea) (λb o N=>Ck (h.st b o N))
 have h7:=cF (St':=St) h q nF (.cells ((Array.range (n * es)).map (zv.cells[· % zv.cells.size]!)) e) (λ_ _ _=>Ea)
 refine NI hr ⟨_,Z,St,upd B d [w.heap.size],?_,hb.alloc G _,F,au G _⟩
 rw[X]
 exact h6.gA Y u D g (c:=.uni e n (UZ v es n)) ⟨w.heap.size,[],_,rfl,alloc_heap_new w _,h7,rfl,λo N=>absurd (h.st _ o N) aG,C,by rw[l];simp[UZ]⟩ nF nF rfl
def yf{p d:Nat}{e:TypeId}{n:Nat}{cs:List V}(g:o.op=.assign (.tmp p)∨o.op=.move (.tmp p))(l:σ p=.uni e n cs)(m:o.dst=some d)(q:d < nt)(r:d∈bx)(i:SQ+d∉bx)(b:DC (kill [p] σ d)=none)(s:K (upd (kill [p] σ) d<|.uni e n cs)):W8 P nt bx base St0 w0 o σ K:=by
 rintro a w Q ⟨St,B,h,t,j,u⟩;have v:(execOp a.eval o).run P w=.ok (.value<|tm a p) w:=by rcases g with e|e<;>simp[execOp,e]<;>rfl
 have f:=h.slot p;rw[l]at f;obtain⟨x,k,y⟩:=h.giveUp p;rw[BX]at k;refine NI v ⟨_,s,St,upd x d<|B p,?_,t,j,u⟩;rw[m];exact k.gA q r i b (c:=.uni e n cs) f (h.nodup p) (λ_ h=>h) rfl
def uC{p d:Nat}{e:TypeId}{n:Nat}{cs:List V}(b:o.op=.assign (.tmp p)∨o.op=.move (.tmp p))(f:σ p=.uni e n cs)(g:o.dst=some d)(h:d < nt)(i:d∉bx)(j:K (upd (upd (kill [p] σ) p<|.dat n cs) d<|.own e n cs)):W8 P nt bx base St0 w0 o σ K:=by
 intro a w Q k;have l:=p6 f k;have c:CP (upd (kill [p] σ) p<|.own e n cs) (.tmp p)=.own e n cs:=by simp[CP,upd_same]
 have m:DB (upd (kill [p] σ) p<|.own e n cs) (.tmp p)=upd (kill [p] σ) p (.dat n cs):=by simp only[DB,upd_same,dg,dg2,WS];funext q;unfold upd;split<;>rfl
 refine gj (K:=K) (x:=.tmp p) b g h i (by rw[c];rfl) ?_ a w Q l;rw[c,m];exact j
end
end
section
section
variable {P:Program}{w:World}{St:Nat->Nat->Prop}
def kE{c v}(h:Rd w St (er c) v):Ow P w St (er c) v []∧(er c).D3=true:=by cases c<;>first|exact⟨⟨rfl,h⟩,rfl⟩|exact h.elim
def wh:∀(cs:List V) {us:List Value},S5 w St (ON cs) us->Bx P w St (ON cs) us []
 |[],_,h=>⟨h,rfl⟩
 |c::cs,_,⟨u,a,e,b,d⟩=>⟨u,a,[],[],e,rfl,(kE (P:=P) b).2,(kE b).1,wh cs d⟩
def AeO{c v bs}(b:c.isArg=true)(h:Ow P w St c v bs):Ow P w St (er c) v []:=by
 have a:=(h.rda b).erase;cases c<;>first|(cases b;done)|exact⟨rfl,a⟩|skip
 have⟨us,e,a⟩:=a;exact⟨us,e,wh _ a⟩
def AeP{c}(a:c.isArg=true):DC (er c)=none∧Ex (er c)=none∧c.isVal=true:=by cases c<;>first|(cases a;done)|exact⟨rfl,rfl,rfl⟩
end
structure Kp (c c':V):Prop where
 rd:∀(P:Program) (w:World) (St:Nat->Nat->Prop) (t:Nat->Value) (v:Value) (bs:zN),CC P w St t c v bs->bs.Nodup->∃bs',CC P w St t c' v bs'∧(∀g∈bs',g∈bs)∧bs'.Nodup
 bx:(DC c').isSome=(DC c).isSome
 rf:∀b,Ex c'=some b->Ex c=some b
def kr{c}:Kp c c:=⟨λ_ _ _ _ _ bs h a=>⟨bs,h,λ_ h=>h,a⟩,rfl,λ_ h=>h⟩
def kd{c c'}(a:c.isVal=true)(b:dg c=c'):Kp c c':=by
 subst b;refine⟨λP w d t v bs h e=>⟨[],((h.ow a).deg a).slot,nF,AZ⟩,?_,λb h=>?_⟩
 ·rw[(bK a).1,(WR a).1]
 ·rw[(bK a).2]at h;cases h
def ke{c c'}(a:c.isArg=true)(d:er c=c'):Kp c c':=by
 subst d;have⟨e,e2,b⟩:=AeP a;refine⟨λP w f t v bs h g=>⟨[],(AeO a<|h.ow b).slot,nF,AZ⟩,?_,λb h=>?_⟩
 ·rw[e,(WR b).1]
 ·rw[e2]at h;cases h
def CW:List V->List V->Prop
 |[],cs'=>cs'=[]
 |c::cs,cs'=>∃d ds,cs'=d::ds∧(c=d∨(c.D3=true∧(WS c=d∨er c=d)))∧CW cs ds
def cwn:CW [] []:=rfl
def cwr{c:V}{cs ds}(h:CW cs ds):CW (c::cs) (c::ds):=⟨c,ds,rfl,.inl rfl,h⟩
def cwd{c d:V}{cs ds}(a:c.D3=true)(b:WS c=d)(h:CW cs ds):CW (c::cs) (d::ds):=⟨d,ds,rfl,.inr ⟨a,.inl b⟩,h⟩
def cwe{c d:V}{cs ds}(a:c.D3=true)(b:er c=d)(h:CW cs ds):CW (c::cs) (d::ds):=⟨d,ds,rfl,.inr ⟨a,.inr b⟩,h⟩
def AcW:∀cs:List V,cs.all V.D3=true->CW cs (cs.map WS)
 |[],_=>rfl
 |c::cs,h=>by rw[BM,Ab]at h;exact cwd h.1 rfl<|AcW cs h.2
def oZ{P w St}:∀{cs cs':List V}{us:List Value}{bs:zN},CW cs cs'->Bx P w St cs us bs->bs.Nodup->∃i,Bx P w St cs' us i∧(∀g∈i,g∈bs)∧i.Nodup
 |[],_,_,bs,h,t,l=>by rw[show _=[]from h];exact⟨bs,t,λ_ h=>h,l⟩
 |c::cs,_,_,_,⟨d,ds,e,v,m⟩,⟨u,n,b1,b2,x,e2,o,p,y⟩,l=>by
  subst e e2;have⟨z,A,B⟩:=AI.1 l;have⟨k,C,r,D⟩:=oZ m y A
  have q:∃f,d.D3=true∧Ow P w St d u f∧(∀g∈f,g∈b1)∧f.Nodup:=by
   rcases v with rfl|⟨j,rfl|rfl⟩
   ·exact⟨b1,o,p,λ_ h=>h,z⟩
   ·exact⟨[],ZC j,p.dp j,nF,AZ⟩
   ·have:=kE (P:=P) (Rd.erase c<|Ow.rd c p j);exact⟨[],this.2,this.1,nF,AZ⟩
  have⟨f,F,G,s,H⟩:=q;refine⟨f++k,⟨u,n,f,k,x,rfl,F,G,C⟩,λg I=>?_,AI.2 ⟨H,D,λa J b K=>B a (s a J) b<|r b K⟩⟩;rcases Al.1 I with h|h
  ·exact AD _<|s g h
  ·exact AB _<|r g h
def kb{cs cs'}(h:CW cs cs'):Kp (.box cs) (.box cs'):=by
 refine⟨?_,rfl,λb h=>by cases h⟩;rintro P w St t v bs ⟨g,T,bs',arr,e1,e2,hr,rfl,hst⟩ hn;have⟨h1,h2⟩:=BI.1 hn;have⟨b',q1,q2,q3⟩:=oZ h hr h2;refine⟨g::b',⟨g,T,b',arr,e1,e2,q1,rfl,hst⟩,λx hx=>?_,BI.2 ⟨λhm=>h1<|q2 _ hm,q3⟩⟩;rcases AL.1 hx with rfl|hx
 ·simp
 ·exact AW _<|q2 x hx
def ki{e n cs cs'}(h:CW cs cs'):Kp (.own e n cs) (.own e n cs'):=by
 refine⟨?_,rfl,λb h=>by cases h⟩;rintro P w St t v bs ⟨hl,xs,bs',hx,hr,rfl,hst,h0⟩ hn;have⟨n1,n2,n3⟩:=AI.1 hn;have⟨b',q1,q2,q3⟩:=oZ h hr n2;refine⟨v.ownBlock.toList++b',⟨hl,xs,b',hx,q1,rfl,hst,λhz=>?_⟩,λg hg=>?_,AI.2 ⟨n1,q3,λa ha b hb=>n3 a ha b<|q2 b hb⟩⟩
 ·rw[h0 hz]at h;exact h
 ·rcases Al.1 hg with h|h
  ·exact AD _ h
  ·exact AB _<|q2 g h
section
variable {P:Program}{nt:Nat}{base:Bs}{bx:zN}{St0:Nat->Nat->Prop}{w0 w:World}{σ σ':PS}{a:Act}{K:PS->Prop}{o:Oper}
def yJ(j:∀s,σ' s=.undef∨Kp (σ s) (σ' s))(u:∀s b,Ex (σ' s)=some b->σ' b≠.undef)(v:Rel P nt bx base St0 w0 σ a w):Rel P nt bx base St0 w0 σ' a w:=by
 have⟨m,B,h,d,f,x⟩:=v
 have n:∀s,∃b:zN,CC P w m (tm a) (σ' s) (tm a s) b∧(∀g∈b,g∈B s)∧b.Nodup:=by
  intro s;rcases j s with e|k
  ·exact⟨[],by rw[e];rfl,nF,AZ⟩
  ·exact k.rd P w m (tm a) (tm a s) (B s) (h.slot s)<|h.nodup s
 have⟨B',p⟩:=Classical.axiomOfChoice n;have c:∀s,∀g∈B' s,g∈B s:=λs=>(p s).2.1
 refine⟨m,B',?_,d,f,x⟩;exact
 {h with
  slot:=λs=>(p s).1
  boxes:=λs cs e=>by
   rcases j s with i|k
   ·rw[i]at e;cases e
   ·have d:=k.bx;rw[e]at d;have⟨ds,y⟩:=HV.1 d.symm;exact h.boxes s ds y
  crefs:=λs b e=>by
   rcases j s with i|k
   ·rw[i]at e;cases e
   ·have⟨cs,q⟩:=h.crefs s b (k.rf b e);rcases j b with i|z
    ·exact absurd i<|u s b e
    ·have d:=z.bx;rw[q]at d;exact HV.1 d
  nodup:=λs=>(p s).2.2
  apart:=λs t f g l r=>h.apart s t f g (c s g l)<|c t g r
  hapart:=λs g l=>by simp
  range:=λs g l=>h.range s g (c s g l)}
def Ab1{d c'}(c:Kp (σ d) c')(h:c'≠.undef)(i:Rel P nt bx base St0 w0 σ a w)(f:∀s b,Ex (σ s)=some b->σ b≠.undef):Rel P nt bx base St0 w0 (upd σ d c') a w:=by
 refine yJ (λs=>.inr ?_) (λs b e=>?_) i
 ·by_cases e:s=d
  ·subst e;rw[upd_same];exact c
  ·rw[upd_ne _ _ e];exact kr
 ·by_cases e2:b=d
  ·subst e2;rw[upd_same];exact h
  ·rw[upd_ne _ _ e2];by_cases g:s=d
   ·subst g;rw[upd_same]at e;exact f s b<|c.rf b e
   ·rw[upd_ne _ _ g]at e;exact f s b e
def jM{o:Oper}{a:Act}{K e:Act->World->Prop}{R:Exit->Act->World->Prop}(b:∀a w,K a w->e a w):∀r,o.upon P a K R r->o.upon P a e R r:=by
 intro r h;unfold Oper.upon at *;split<;>simp only at h
 ·exact b _ _ h
 ·exact b _ _ h
 ·exact b _ _ h
 ·refine Calls.mono h ?_;rintro(v|c|_) w' d
  ·exact b _ _ d
  ·exact d
  ·exact d
 ·exact Rows.mono h<|λv w' d=>b _ _ d
 ·exact h
def Ah6{σA:PS}{d:Nat}{c':V}(h:W8 P nt bx base St0 w0 o σ (λσ'=>σ'=σA))(i:Kp (σA d) c')(j:c'≠.undef)(k:K (upd σA d c')):W8 P nt bx base St0 w0 o σ K:=by intro a w Q l;have g:=h a w Q l;unfold Oper.wp at g⊢;refine jM (λa' w' m=>?_) _ g;obtain⟨σ',e,c⟩:=m;subst e;refine⟨_,k,Ab1 i j c<|λs b e=>?_⟩;obtain⟨p,B,n,_⟩:=c;obtain⟨cs,f⟩:=n.crefs s b e;intro e2;rw[e2]at f;cases f
end
end
section
mutual
def deep:V->Bool
 |.tok _=>true
 |.int _ _=>true
 |.bool _=>true
 |.str _=>true
 |.own _ _ cs=>GK cs
 |.agg cs=>GK cs
 |_=>false
def GK:List V->Bool
 |[]=>true
 |c::cs=>deep c&&GK cs
end
structure FrB (bs:zN) (w w':World):Prop where
 os:w'.os=w.os
 tape:w'.tape=w.tape
 output:w'.output=w.output
 size:w.heap.size<=w'.heap.size
 block:∀g,g < w.heap.size->g∉bs->w'.heap[g]? =w.heap[g]?
def FrB.refl(bs:zN)(w:World):FrB bs w w:=⟨rfl,rfl,rfl,A5 _,λ_ _ _=>rfl⟩
section
variable {P:Program}{w w':World}{St St':Nat->Nat->Prop}
mutual
def Ow.kept:∀(c:V) {v:Value}{bs:zN},deep c=true->Ow P w St c v bs->(∀g∈bs,w'.heap[g]? =w.heap[g]? ∧∀o,St' g o↔St g o)->Ow P w' St' c v bs
 |.tok _,_,_,_,⟨b,d⟩,_=>⟨b,d⟩
 |.int _ _,_,_,_,⟨b,d⟩,_=>⟨b,d⟩
 |.bool _,_,_,_,⟨b,d⟩,_=>⟨b,d⟩
 |.str _,_,_,_,⟨b,d⟩,_=>⟨b,d⟩
 |.own e n cs,v,bs,a,⟨p,xs,k,b,d,j,q,s⟩,i=>by
  refine⟨p,xs,k,?_,Bx.kept cs a d<|λg f=>i g<|by rw[j];exact AB _ f,j,λg f o=>?_,s⟩
  ·refine⟨b.1,?_⟩;rcases b.2 with h|⟨g,l,m,rfl,f,t,r⟩
   ·exact .inl h
   ·exact .inr ⟨g,l,m,rfl,f,by rw[(i g<|by rw[j];simp[Value.ownBlock]).1];exact t,r⟩
  ·rw[(i g<|by rw[j,f];simp).2 o];exact q g f o
 |.agg cs,_,_,a,⟨us,e,h⟩,i=>⟨us,e,Bx.kept cs a h i⟩
 |.dat _ _,_,_,a,_,_=>by cases a
 |.arg _ _,_,_,a,_,_=>by cases a
 |.pin _ _ _,_,_,a,_,_=>by cases a
 |.tup _,_,_,a,_,_=>by cases a
 |.box _,_,_,a,_,_=>by cases a
 |.uni _ _ _,_,_,a,_,_=>by cases a
 |.same _,_,_,a,_,_=>by cases a
 |.val _ _,_,_,a,_,_=>by cases a
 |.cref _ _,_,_,a,_,_=>by cases a
 |.adr _ _,_,_,a,_,_=>by cases a
 |.gh _ _,_,_,a,_,_=>by cases a
 |.undef,_,_,a,_,_=>by cases a
def Bx.kept:∀(cs:List V) {us:List Value}{bs:zN},GK cs=true->Bx P w St cs us bs->(∀g∈bs,w'.heap[g]? =w.heap[g]? ∧∀o,St' g o↔St g o)->Bx P w' St' cs us bs
 |[],_,_,_,h,_=>h
 |c::cs,_,_,f,⟨u,b,b1,b2,i,e2,j,k,l⟩,e=>by
  have a:deep c=true∧GK cs=true:=by simpa[GK]using f
  exact⟨u,b,b1,b2,i,e2,j,Ow.kept c a.1 k<|λg d=>e g<|by rw[e2];exact AD _ d,Bx.kept cs a.2 l<|λg d=>e g<|by rw[e2];exact AB _ d⟩
end
end
mutual
def OP:V->Bool
 |.int _ _=>true
 |.bool _=>true
 |.str _=>true
 |.arg _ cs=>PF cs
 |.tok _=>true
 |_=>false
def PF:List V->Bool
 |[]=>true
 |c::cs=>OP c&&PF cs
end
mutual
def ST:V->Bool
 |.tok _=>true
 |.int _ _=>true
 |.bool _=>true
 |.str _=>true
 |.own _ _ cs=>Ee cs
 |.agg cs=>Ee cs
 |.arg _ cs=>PF cs
 |_=>false
def Ee:List V->Bool
 |[]=>true
 |c::cs=>ST c&&Ee cs
end
mutual
def AdE:∀{c:V},deep c=true->ST c=true
 |.tok _,_=>rfl
 |.int _ _,_=>rfl
 |.bool _,_=>rfl
 |.str _,_=>rfl
 |.own _ _ cs,h=>by rw[ST];exact Qx (by rw[deep]at h;exact h)
 |.agg cs,h=>by rw[ST];exact Qx (by rw[deep]at h;exact h)
 |.dat _ _,h=>by cases h
 |.arg _ _,h=>by cases h
 |.pin _ _ _,h=>by cases h
 |.tup _,h=>by cases h
 |.box _,h=>by cases h
 |.uni _ _ _,h=>by cases h
 |.same _,h=>by cases h
 |.val _ _,h=>by cases h
 |.cref _ _,h=>by cases h
 |.adr _ _,h=>by cases h
 |.gh _ _,h=>by cases h
 |.fn _,h=>by cases h
 |.undef,h=>by cases h
def Qx:∀{cs:List V},GK cs=true->Ee cs=true
 |[],_=>rfl
 |c::cs,h=>by rw[GK,Ab]at h;rw[Ee,AdE h.1,Qx h.2];rfl
end
def zd{c}(h:OP c=true):ST c=true:=by
 cases c with
 |arg n cs=>rw[ST];rw[OP]at h;exact h
 |_=>first|rfl|cases h
def sdA:∀{cs:List V},PF cs=true->Ee cs=true
 |[],_=>rfl
 |c::cs,h=>by rw[PF,Ab]at h;rw[Ee,zd h.1,sdA h.2];rfl
def Ls:∀{cs:List V},Ee cs=true↔∀c∈cs,ST c=true
 |[]=>by simp[Ee]
 |c::cs=>by rw[Ee,Ab,Ls (cs:=cs)];simp
def sdF{α:Type}{f}(h:∀x,Ee (f x)=true)(l:List α):Ee (l.flatMap f)=true:=Ls.2 λc b=>by have⟨a,_,b⟩:=B6.1 b;exact Ls.1 (h a) c b
def Ze(c:V):Bool:=ST c
def Nl:V->Bool
 |.undef=>true
 |.agg cs=>cs.all Ze
 |.box cs=>cs.all Ze
 |.cref _ _=>true
 |.same _=>true
 |.val _ _=>true
 |.own _ _ cs=>Ee cs
 |.gh _ cs=>Ee cs
 |.arg _ cs=>PF cs
 |.int _ _=>true
 |.bool _=>true
 |.str _=>true
 |.tok _=>true
 |_=>false
section
variable {P:Program}{w w':World}{St St':Nat->Nat->Prop}{bs:zN}
mutual
def Rd.vb(hf:FrB bs w w')(hl:∀g∈bs,∃o,¬St g o)(hst:∀b o,St b o->b < w.heap.size)(hS:∀k o,k∉bs->St k o->St' k o):∀(c:V) {v:Value},OP c=true->Rd w St c v->Rd w' St' c v
 |.int _ _,_,_,h=>h
 |.bool _,_,_,h=>h
 |.str _,_,_,h=>h
 |.arg _ cs,_,hd,⟨hn,A,c,e,hc,h,h0⟩=>⟨hn,A,c,e,hc,λhp=>let⟨b,off,ea,hw,hr⟩:=h hp;⟨b,off,ea,λhne o=>hS b o (λhb=>let⟨o',ho⟩:=hl b hb;ho<|hw hne o')<|hw hne o,El.vb hf hl hst hS b (cs0:=cs) (λhne hb=>let⟨o,ho⟩:=hl b hb;ho<|hw hne o) off cs hd (λh=>h) hr⟩,h0⟩
 |.own _ _ _,_,hd,_=>by cases hd
 |.dat _ _,_,hd,_=>by cases hd
 |.pin _ _ _,_,hd,_=>by cases hd
 |.agg _,_,hd,_=>by cases hd
 |.tup _,_,hd,_=>by cases hd
 |.box _,_,hd,_=>by cases hd
 |.uni _ _ _,_,hd,_=>by cases hd
 |.same _,_,hd,_=>by cases hd
 |.val _ _,_,hd,_=>by cases hd
 |.cref _ _,_,hd,_=>by cases hd
 |.adr _ _,_,hd,_=>by cases hd
 |.gh _ _,_,hd,_=>by cases hd
 |.tok _,_,_,h=>h
 |.undef,_,hd,_=>by cases hd
def El.vb(h:FrB bs w w')(j:∀g∈bs,∃o,¬St g o)(a:∀b o,St b o->b < w.heap.size)(i:∀k o,k∉bs->St k o->St' k o)(b:Nat){cs0:List V}(l:cs0≠[]->b∉bs):∀(off:Nat) (cs:List V),PF cs=true->(cs≠[]->cs0≠[])->El w St b off cs->El w' St' b off cs
 |_,[],_,_,_=>trivial
 |off,c::cs,n,d,⟨⟨m,u,p,q⟩,r⟩=>by
  have e:OP c=true∧PF cs=true:=by simpa[PF]using n
  have f:=l<|d nF;exact⟨⟨i b off f m,u,(Co (w:=w)<|h.block b (a b off m) f).trans p,Rd.vb h j a i c e.1 q⟩,El.vb h j a i b l (off+1) cs e.2 (λ_=>d nF) r⟩
end
mutual
def Ow.WE:∀(c:V) {v:Value}{b:zN},deep c=true->Ow P w St c v b->∀g∈b,∃o,¬St g o
 |.tok _,_,_,_,h,g,hg=>by rw[h.1]at hg;cases hg
 |.int _ _,_,_,_,h,g,hg=>by rw[h.1]at hg;cases hg
 |.bool _,_,_,_,h,g,hg=>by rw[h.1]at hg;cases hg
 |.str _,_,_,_,h,g,hg=>by rw[h.1]at hg;cases hg
 |.own e n cs,v,b,hd,⟨hn,xs,bs',h1,h2,h3,h4,h5⟩,g,hg=>by
  rw[h3]at hg;rcases Al.1 hg with hg|hg
  ·exact⟨n * Wl P e,λhs=>absurd ((h4 g (by simpa using hg) _).1 hs)<|G2 _⟩
  ·exact Bx.WE cs hd h2 g hg
 |.agg cs,_,_,hd,⟨us,e,h⟩,g,hg=>Bx.WE cs hd h g hg
 |.dat _ _,_,_,hd,_,_,_=>by cases hd
 |.arg _ _,_,_,hd,_,_,_=>by cases hd
 |.pin _ _ _,_,_,hd,_,_,_=>by cases hd
 |.tup _,_,_,hd,_,_,_=>by cases hd
 |.box _,_,_,hd,_,_,_=>by cases hd
 |.uni _ _ _,_,_,hd,_,_,_=>by cases hd
 |.same _,_,_,hd,_,_,_=>by cases hd
 |.val _ _,_,_,hd,_,_,_=>by cases hd
 |.cref _ _,_,_,hd,_,_,_=>by cases hd
 |.adr _ _,_,_,hd,_,_,_=>by cases hd
 |.gh _ _,_,_,hd,_,_,_=>by cases hd
 |.undef,_,_,hd,_,_,_=>by cases hd
def Bx.WE:∀(cs:List V) {us:List Value}{b:zN},GK cs=true->Bx P w St cs us b->∀g∈b,∃o,¬St g o
 |[],_,_,_,h,g,a=>by rw[h.2]at a;cases a
 |c::cs,_,_,e,⟨u,f,b1,b2,k,e2,l,i,j⟩,g,a=>by
  have d:deep c=true∧GK cs=true:=by simpa[GK]using e
  rw[e2]at a;rcases Al.1 a with a|a
  ·exact Ow.WE c d.1 i g a
  ·exact Bx.WE cs d.2 j g a
end
def z0{c v b}(a:OP c=true)(h:Ow P w St c v b):b=[]∧Rd w St c v:=by cases c<;>first|exact h|cases a
def AbI{c v}(a:OP c=true)(h:Rd w St c v):Ow P w St c v []:=by cases c<;>first|exact⟨rfl,h⟩|cases a
mutual
def Ow.XG(q:FrB bs w w')(s:∀g∈bs,∃o,¬St g o)(i:∀b o,St b o->b < w.heap.size)(t:∀k o,k∉bs->St k o->St' k o):∀(c:V) {v:Value}{b:zN},ST c=true->Ow P w St c v b->(∀g∈b,w'.heap[g]? =w.heap[g]? ∧∀o,St' g o↔St g o)->Ow P w' St' c v b
 |.tok _,_,_,_,⟨f,d⟩,_=>⟨f,d⟩
 |.int _ _,_,_,_,⟨f,d⟩,_=>⟨f,d⟩
 |.bool _,_,_,_,⟨f,d⟩,_=>⟨f,d⟩
 |.str _,_,_,_,⟨f,d⟩,_=>⟨f,d⟩
 |.own e n cs,v,b,a,⟨z,xs,u,f,d,p,A,B⟩,m=>by
  refine⟨z,xs,u,?_,Bx.XG q s i t cs (by rw[ST]at a;exact a) d<|λg l=>m g<|by rw[p];exact AB _ l,p,λg l o=>by rw[(m g<|by rw[p,l];simp).2 o];exact A g l o,B⟩;refine⟨f.1,?_⟩;rcases f.2 with h|⟨g,x,y,rfl,l,C,r⟩
  ·exact .inl h
  ·exact .inr ⟨g,x,y,rfl,l,by rw[(m g<|by rw[p];simp[Value.ownBlock]).1];exact C,r⟩
 |.agg cs,_,_,a,⟨us,e,h⟩,m=>⟨us,e,Bx.XG q s i t cs (by rw[ST]at a;exact a) h m⟩
 |.arg n cs,_,_,a,h,_=>by
  have j:OP (.arg n cs)=true:=by rw[OP];rw[ST]at a;exact a
  obtain⟨rfl,d⟩:=z0 j h;exact AbI j<|Rd.vb q s i t _ j d
 |.dat _ _,_,_,a,_,_=>by cases a
 |.pin _ _ _,_,_,a,_,_=>by cases a
 |.tup _,_,_,a,_,_=>by cases a
 |.box _,_,_,a,_,_=>by cases a
 |.uni _ _ _,_,_,a,_,_=>by cases a
 |.same _,_,_,a,_,_=>by cases a
 |.val _ _,_,_,a,_,_=>by cases a
 |.cref _ _,_,_,a,_,_=>by cases a
 |.adr _ _,_,_,a,_,_=>by cases a
 |.gh _ _,_,_,a,_,_=>by cases a
 |.fn _,_,_,a,_,_=>by cases a
 |.undef,_,_,a,_,_=>by cases a
def Bx.XG(i:FrB bs w w')(j:∀g∈bs,∃o,¬St g o)(a:∀b o,St b o->b < w.heap.size)(l:∀k o,k∉bs->St k o->St' k o):∀(cs:List V) {us:List Value}{b:zN},Ee cs=true->Bx P w St cs us b->(∀g∈b,w'.heap[g]? =w.heap[g]? ∧∀o,St' g o↔St g o)->Bx P w' St' cs us b
 |[],_,_,_,h,_=>h
 |c::cs,_,_,m,⟨u,e,b1,b2,p,e2,q,r,s⟩,n=>by
  have d:ST c=true∧Ee cs=true:=by rw[Ee,Ab]at m;exact m
  exact⟨u,e,b1,b2,p,e2,q,Ow.XG i j a l c d.1 r<|λg f=>n g<|by rw[e2];exact AD _ f,Bx.XG i j a l cs d.2 s<|λg f=>n g<|by rw[e2];exact AB _ f⟩
end
def jH(d:FrB bs w w')(e:∀g∈bs,∃o,¬St g o)(a:∀b o,St b o->b < w.heap.size)(f:∀k o,k∉bs->St k o->St' k o){c:V}{v:Value}{b:zN}(i:Ze c=true)(h:Ow P w St c v b)(j:∀g∈b,w'.heap[g]? =w.heap[g]? ∧∀o,St' g o↔St g o):Ow P w' St' c v b:=Ow.XG d e a f c i h j
def gR(i:FrB bs w w')(j:∀g∈bs,∃o,¬St g o)(a:∀b o,St b o->b < w.heap.size)(l:∀k o,k∉bs->St k o->St' k o):∀(cs:List V) {us:List Value}{b:zN},cs.all Ze=true->Bx P w St cs us b->(∀g∈b,w'.heap[g]? =w.heap[g]? ∧∀o,St' g o↔St g o)->Bx P w' St' cs us b
 |[],_,_,_,h,_=>h
 |c::cs,_,_,d,⟨u,e,b1,b2,n,e2,p,q,r⟩,m=>by simp only[BM,Ab]at d;exact⟨u,e,b1,b2,n,e2,p,jH i j a l d.1 q<|λg f=>m g<|by rw[e2];exact AD _ f,gR i j a l cs d.2 r<|λg f=>m g<|by rw[e2];exact AB _ f⟩
def T5(j:FrB bs w w')(l:∀g∈bs,∃o,¬St g o)(a:∀b o,St b o->b < w.heap.size)(m:∀k o,k∉bs->St k o->St' k o){t:Nat->Value}{c:V}{v:Value}{b:zN}(d:Nl c=true)(h:CC P w St t c v b)(i:∀g∈b,w'.heap[g]? =w.heap[g]? ∧∀o,St' g o↔St g o):CC P w' St' t c v b:=by
 cases c with
 |undef=>exact h
 |agg cs=>have⟨us,e,h⟩:=h;exact⟨us,e,gR j l a m cs d h i⟩
 |box cs=>obtain⟨g,T,p,q,r,e2,y,rfl,z⟩:=h;exact⟨g,T,p,q,r,by rw[(i g nF).1];exact e2,gR j l a m cs d y<|λx A=>i x<|by simp[A],rfl,λo B=>z o<|((i g nF).2 o).1 B⟩
 |cref s off=>exact h
 |same s=>exact h
 |val s u=>exact h
 |own e n cs=>exact Ow.XG j l a m (.own e n cs) (by rw[ST];exact d) h i
 |arg n cs=>exact jH (P:=P) (c:=.arg n cs) j l a m (by rw[Ze,ST];exact d) h i
 |int k n=>exact h
 |bool k=>exact h
 |str k=>exact h
 |dat n cs=>cases d
 |pin u n cs=>cases d
 |fn f=>cases d
 |tok u=>exact h
 |gh us cs=>exact Bx.XG j l a m cs d h i
 |tup cs=>cases d
 |uni e n cs=>cases d
 |adr cs o=>cases d
end
section
variable {P:Program}{nt:Nat}{base:Bs}{bx:zN}{St St' St0:Nat->Nat->Prop}{B:Nat->zN}{hand:zN}{σ σ':PS}{a:Act}{w w' w0:World}{K:PS->Prop}
end
end
section
def gS:Nat:=900003
def gU:Nat:=900004
def yT:Operand->zN
 |.tmp t=>[t]
 |_=>[]
section
variable {P:Program}{nt:Nat}{base:Bs}{bx:zN}{St St' St0:Nat->Nat->Prop}{B:Nat->zN}{hand:zN}{σ σ':PS}{a:Act}{w w' w0:World}{K:PS->Prop}{o:Oper}
def pg(h:HSim P nt bx base St B hand σ a w){s g:Nat}{c':V}{bs:zN}(hg:g∈B s)(hf:FrB [g] w w')(hl:∃o,¬St g o)(hs:∀q,q≠s->Nl (σ q)=true)(hbx:DC (σ s)=none)(hbx':DC c'=none)(hrf:Ex c'=none)
  (hc:CC P w' St (tm a) c' (tm a s) bs) (hn:bs.Nodup) (hsub:∀k∈bs,k∈B s∨k∈hand):HSim P nt bx base St (upd B s bs) [] (upd σ s c') a w':=by
 have hother:∀q,q≠s->∀k∈B q,k∉bs:=λq hq k hk hm=>by
  rcases hsub k hm with h1|h1
  ·exact h.apart q s hq k hk h1
  ·exact h.hapart q k hk h1
 have hrange:∀k∈bs,¬base k∧k < w.heap.size:=λk hk=>by
  rcases hsub k hk with h1|h1
  ·exact h.range s k h1
  ·exact h.hrange k h1
 exact
 {h with
  slot:=λq=>by
   by_cases e:q=s
   ·subst e;rw[upd_same,upd_same];exact hc
   ·rw[upd_ne _ _ e,upd_ne _ _ e];exact T5 hf (λk hk=>by simp only[As]at hk;subst hk;exact hl) h.st (λ_ _ _ h=>h) (hs q e) (h.slot q)<|λk hk=>⟨hf.block k (h.range q k hk).2 (λhm=>by simp only[As]at hm;subst hm;exact h.apart q s e k hk hg),λ_=>Ea⟩
  boxes:=λq cs e=>by
   by_cases eq:q=s
   ·subst eq;rw[upd_same,hbx']at e;cases e
   ·rw[upd_ne _ _ eq]at e;exact h.boxes q cs e
  crefs:=λq b e=>by
   by_cases eq:q=s
   ·subst eq;rw[upd_same,hrf]at e;cases e
   ·rw[upd_ne _ _ eq]at e;have⟨cs,hcs⟩:=h.crefs q b e;exact⟨cs,by rw[upd_ne _ _ (λeb=>by subst eb;rw[hbx]at hcs;cases hcs)];exact hcs⟩
  nodup:=λq=>by
   by_cases e:q=s
   ·subst e;rw[upd_same];exact hn
   ·rw[upd_ne _ _ e];exact h.nodup q
  apart:=λq r hqr k hk hk'=>by
   by_cases e:q=s
   ·subst e;rw[upd_same]at hk;rw[upd_ne _ _ (Ne.symm hqr)]at hk';exact hother r (Ne.symm hqr) k hk' hk
   ·rw[upd_ne _ _ e]at hk;by_cases e':r=s
    ·subst e';rw[upd_same]at hk';exact hother q e k hk hk'
    ·rw[upd_ne _ _ e']at hk';exact h.apart q r hqr k hk hk'
  hnodup:=AZ
  hapart:=λ_ _ _=>by simp
  range:=λq k hk=>by
   by_cases e:q=s
   ·subst e;rw[upd_same]at hk;exact⟨(hrange k hk).1,BV (hrange k hk).2 hf.size⟩
   ·rw[upd_ne _ _ e]at hk;exact⟨(h.range q k hk).1,BV (h.range q k hk).2 hf.size⟩
  hrange:=nF
  st:=λb o hs=>BV (h.st b o hs) hf.size
  gl:=h.gl.of (λb hb o=>hb o) (λb o hb=>Co (hf.block b (h.st b o (hb o)) λhm=>by simp only[As]at hm;subst hm;exact hl.elim λo' ho=>ho (hb o')))}
def bJ:∀{cs:List V},GK cs=true↔∀c∈cs,deep c=true
 |[]=>by simp[GK]
 |c::cs=>by rw[GK,Ab,bJ (cs:=cs)];simp
def uE{e n off g m cs new vs b1 bs}(h:Ow P w St (.own e n cs) (.slice (some ⟨g,0,none⟩) n m) b1)(hn:b1.Nodup)(hbn:bs.Nodup)(F:∀k∈bs,k∉b1)
  (hd:Ee cs=true) (hd':Ee new=true) (G:∀b o,St b o->b < w.heap.size) (z:Bx P w St new vs bs) (hl:off+new.length<=cs.length):
  g∈b1∧(∃o,¬St g o)∧∃f:Array Value,w.heap[g]? =some (.cells f e (0,0))∧off+vs.length<=f.size∧∃b2,Ow P (w.setRow g (f.toList.take off++vs++f.toList.drop (off+vs.length)).toArray) St (.own e n<|N7 cs off new) (.slice (some ⟨g,0,none⟩) n m) b2∧b2.Nodup∧∀k∈b2,k∈b1∨k∈bs:=by
 have⟨hn1,xs,H,Q,I,hb1,J,h0⟩:=h;have R:b1=g::H:=by rw[hb1];rfl
 subst R;have⟨C,hr⟩:=Q;rcases hr with⟨hr,_⟩|⟨g',cap,f,eg,hg0,hh,q1,q2,q3,q4⟩
 ·cases hr
 cases eg;have lx:xs.length=cs.length:=I.length;have lv:vs.length=new.length:=z.length
 have hN:n * Wl P e<=f.size:=by
  have:(f.toList.take<|n * Wl P e).length=n * Wl P e:=by rw[q4];exact C
  rw[AH,Ce]at this;omega
 have hle:off+vs.length<=n * Wl P e:=by rw[<-C,lx,lv];exact hl
 have e0:=lA cs off new.length;rw[e0]at I;have⟨j,us2,S,c2,eu,eb,r1,r2⟩:=Bx.app I;have⟨T,p,c3,U,W,X,r3,r4⟩:=Bx.app r2;have l1:j.length=off:=by rw[r1.length,AH,CS aG]
 have l3:T.length=new.length:=by rw[r3.length,AH,BH,CS aG]
 have D:=BI.1 hn
 have q:∀k,k∈S∨k∈U->k∈H:=by
  intro k d;rw[eb,X];simp only[Al];rcases d with d|d
  ·exact .inl d
  ·exact .inr<|.inr d
 have i:∀(A:Array Value) (k:Nat),k≠g->(w.setRow g A).heap[k]? =w.heap[k]?:=λA k d=>K1 w g k _ d
 have r:=BD (a:=g) (l:=H);have s:=Ls.1 hd;have L:∃o,¬St g o:=⟨n * Wl P e,λhs=>absurd ((J g rfl _).1 hs)<|G2 _⟩;have M:∀A:Array Value,FrB [g] w (w.setRow g A):=λA=>⟨rfl,rfl,rfl,by simp[World.setRow],λk _ d=>K1 w g k _<|by simpa using d⟩
 have N:∀k∈[g],∃o,¬St k o:=λk d=>by simp only[As]at d;subst d;exact L
 refine⟨r,⟨n * Wl P e,λhs=>absurd ((J g rfl _).1 hs)<|G2 _⟩,f,hh,aG,?_⟩;have Y:(S++(c3++U)).Nodup:=by rw[<-X,<-eb];exact D.2
 have t:=AI.1 Y;have Z:=AI.1 t.2.1;have hgb:∀k∈bs,k≠g:=λk d e=>F k d<|e ▸ r
 have u:∀k,k∈S∨k∈U->k≠g:=λk d e=>D.1<|e ▸ q k d
 generalize hA:(f.toList.take off++vs++f.toList.drop (off+vs.length))=A;have m1:=Bx.XG (M A.toArray) N G (λ_ _ _ h=>h) (cs.take off) (Ls.2 λc hc=>s c<|Dd hc) r1<|λk d=>⟨i _ k<|u k<|.inl d,λ_=>Ea⟩
 have m4:=Bx.XG (M A.toArray) N G (λ_ _ _ h=>h) (cs.drop<|off+new.length) (Ls.2 λc hc=>s c<|JU hc) r4<|λk d=>⟨i _ k<|u k<|.inr d,λ_=>Ea⟩
 have mv:=Bx.XG (M A.toArray) N G (λ_ _ _ h=>h) new hd' z<|λk d=>⟨i _ k<|hgb k d,λ_=>Ea⟩
 have hx':A.take (n * Wl P e)=j++(vs++p):=by
  have e1:j=f.toList.take off:=by
   have h2:xs.take off=j:=by rw[eu,<-l1,List.take_left]
   rw[<-h2,<-q4,List.take_take,CS aG]
  have e4:p=(f.toList.drop<|off+vs.length).take (n * Wl P e - (off+vs.length)):=by
   have h2:xs.drop (off+vs.length)=p:=by rw[eu,W,<-Bw,Eb (by simp[l1,l3,lv]),DR (by simp[l1,l3,lv]),BX]
   rw[<-h2,<-q4,O4]
  rw[<-hA,<-e1,Bw,Qt,ER aG,Qt,ER aG,e4];congr 3;omega
 refine⟨g::(S++(bs++U)),⟨hn1,j++(vs++p),S++(bs++U),⟨?_,.inr ⟨g,m,A.toArray,rfl,hg0,setRow_heap w g f _ e _ hh,q1,q2,?_,by simpa using hx'⟩⟩,?_,rfl,J,λhz=>?_⟩,?_,?_⟩
 ·have:xs.length=j.length+(T.length+p.length):=by rw[eu,W];simp
  simp only[An];omega
 ·rw[<-q3,<-hA];simp;omega
 ·unfold N7;rw[Bw];exact m1.join<|mv.join m4
 ·have:=h0 hz;subst this;simp only[Bn,Nat.le_zero_eq,Nat.add_eq_zero_iff]at hl;have:=BG hl.2;subst this;simp[N7]
 ·refine BI.2 ⟨?_,AI.2 ⟨t.1,AI.2 ⟨hbn,Z.2.1,λx hx y O e=>F x hx<|AW _<|e ▸ q y (.inr O)⟩,?_⟩⟩
  ·intro v;rcases Al.1 v with v|v
   ·exact u g (.inl v) rfl
   ·rcases Al.1 v with v|v
    ·exact hgb g v rfl
    ·exact u g (.inr v) rfl
  ·intro x hx y O e;rcases Al.1 O with O|O
   ·exact F y O<|AW _<|e ▸ q x (.inl hx)
   ·exact t.2.2 x hx y (AB _ O) e
 ·intro k d;rcases AL.1 d with rfl|d
  ·exact .inl r
  ·rcases Al.1 d with d|d
   ·exact .inl<|AW _<|q k<|.inl d
   ·rcases Al.1 d with d|d
    ·exact .inr d
    ·exact .inl<|AW _<|q k<|.inr d
def ZD{D σ s}(b:D.contains s=false)(c:Ex (σ s)=none):kill D σ s=σ s:=by unfold kill;rw[AA (by rw[b];simp),c]
def uz{tb}(r:LB P tb){t:TypeId}{dd:TyD}{x:Operand}{d q g off n m:Nat}{e:TypeId}{cs:List V}(s:o.op=.load t x)(R:tb t=some dd)(y:Oa σ x=.tok (.pointer<|some ⟨g,off,none⟩))(S:σ q=.gh [.slice (some ⟨g,0,none⟩) n m] [.own e n cs])(I:off+dd.size<=cs.length)(T:0 < dd.size)
  (U:o.dst=some d) (W:d < nt) (X:d∉bx) (Y:K (upd σ d<|getCells dd cs off)):W8 P nt bx base St0 w0 o σ K:=by
 rintro a w Q ⟨St,B,h,Z,z,i⟩;have C:=aW h y;have J:=h.slot q;rw[S]at J;have⟨u,us',b1,b2,L,eb,_,D,M⟩:=J;simp only[Dk]at L;obtain⟨rfl,-⟩:=L;have j:=Ow.rd (.own e n cs) (show Ow P w St (.own e n cs) _ b1 from D) rfl;simp only[Rd]at j;have⟨hn,A,c,N,hc,k,h0⟩:=j;simp only[Value.slice.injEq]at N;obtain⟨rfl,-⟩:=N
 have F:0 < n:=by
  rcases DI n with i|i
  ·have:=h0 i;subst this;simp only[Bn]at I;omega
  ·exact i
 have⟨b,O,l,G⟩:=k F;simp only[Av,Addr.mk.injEq]at l;obtain⟨rfl,rfl,-⟩:=l;have p:=G.drop off;rw[C9]at p;have⟨us,h3,h4⟩:=p.list;have⟨v,H,f⟩:=k9 (r _ _ R) h3 h4 I<|.inl T;have G:(execOp a.eval o).run P w=.ok (.value v) w:=by simp[execOp,s,C,H]
 refine NI G ⟨_,Y,St,upd B d [],?_,Z,z,i⟩;rw[U];exact h.put W X f.slot AZ nF f.Ek.1 f.SR
def Acw(σ:PS)(y:Operand)(vc:List V):Prop:=((CP σ y).isArg=true∧vc=G7 (CP σ y))∨(y=.const (.slice none 0 0)∧∃e,vc=[.own e 0 []])
def yi{tb:Tb}(M:LB P tb){t:TypeId}{dd:TyD}{x y:Operand}{e:TypeId}{n off g m:Nat}{cs:List V}(N:o.op=.store t x y)(ht:tb t=some dd)(O:Oa σ x=.tok (.pointer<|some ⟨g,off,none⟩))
  (hg:σ gS=.gh [.slice (some ⟨g,0,none⟩) n m] [.own e n cs]) (hd:Ee cs=true) {vc:List V}(l:Acw σ y vc) (R:Ee vc=true) (hn:vc.length=dd.size) (hl:off+dd.size<=cs.length) (ho:o.dst=none)
  (D:zN) (S:((yT y).contains gS || D.contains gS)=false) (i:∀q,q≠gS->D.contains q=true∨Nl (DB σ y q)=true)
  (d:K (upd (kill D<|DB σ y) gS<|.gh [.slice (some ⟨g,0,none⟩) n m] [.own e n (N7 cs off vc)])):W8 P nt bx base St0 w0 o σ K:=by
 have T:(CP σ y).isVal=true:=by
  rcases l with⟨l,-⟩|⟨rfl,-⟩
  ·exact M8 l
  ·rfl
 rintro a w Q ⟨St,B,h,hb,U,hz⟩;have W:=aW h O;rw[BN]at S;obtain⟨bs,B1,hw,h2,z⟩:=WP h y T;rw[BX]at h2 z
 have X:∀q,(yT y).contains q=false->DB σ y q=σ q:=by
  intro q I;cases y with
  |tmp p=>simp only[yT,List.contains_cons,List.contains_nil,Dv,Be,ne_eq]at I;simp only[DB];rw[upd_ne _ _ I]
  |_=>rfl
 obtain⟨B2,r,_,Y⟩:=Yn D h2
 have Z:∀q,∀k∈B2 q,k∈B1 q:=λq k d=>by
  rcases Y q with e|e
  ·rw[e]at d;cases d
  ·rw[e]at d;exact d
 have C:DB σ y gS=.gh [.slice (some ⟨g,0,none⟩) n m] [.own e n cs]:=by rw[X gS S.1];exact hg
 have F:kill D (DB σ y) gS=.gh [.slice (some ⟨g,0,none⟩) n m] [.own e n cs]:=by rw[ZD S.2 (by rw[C];rfl)];exact C
 have hG:=r.slot gS;rw[F]at hG;obtain⟨u,us',b1,b2,eu,v,_,hOw,G⟩:=hG;simp only[Dk]at eu;obtain⟨rfl,rfl⟩:=eu;have hb2:b2=[]:=G.2;subst hb2;rw[A7]at v;have hnd:b1.Nodup:=by have:=r.nodup gS;rwa [v]at this
 have b:Bx P w St vc (a.eval y).cells.toList bs:=by
  rcases l with⟨l,rfl⟩|⟨rfl,e',rfl⟩
  ·exact hw.cells l
  ·have hb0:bs=[]:=hw.1;subst hb0;exact⟨.slice none 0 0,[],[],[],rfl,rfl,rfl,pJ e',rfl,rfl⟩
 have lv:(a.eval y).cells.toList.length=dd.size:=by rw[b.length,hn]
 obtain⟨k1,k2,j,k3,k4,bn,k5,k6,k7⟩:=uE hOw hnd z (λk d hm=>r.hapart gS k (by rw[v];exact hm) d) hd R r.st b (by rw[hn];exact hl);have f:=run_storeCells_at (P:=P) g off e (a.eval y).cells.toList 0 j w k3 (by rw[D5];exact k4)<|(Bx.rdL _ b).oneCell;simp only[D5]at f;have H:=M _ _ ht;generalize hA:(j.toList.take off++(a.eval y).cells.toList++j.toList.drop (off+(a.eval y).cells.toList.length)).toArray=A at f k5
 have hr:(execOp a.eval o).run P w=.ok .skip (w.setRow g A):=by
  have hsz:(a.eval y).cells.size=dd.size:=by rw[<-lv,Ce]
  simp[execOp,N,W,Instr.storeAt,Instr.sureAddr,storeVar,H.sizeOf,hsz,f]
 have c:(w.setRow g A).heap.size=w.heap.size:=by simp[World.setRow]
 have hf:FrB [g] w (w.setRow g A):=⟨rfl,rfl,rfl,by rw[c];exact A5 _,λk _ d=>K1 w g k _<|by simpa using d⟩;have hgb:¬base g:=(r.range gS g<|by rw[v];exact k1).1;refine zM hr ⟨_,d,St,upd B2 gS bn,?_,?_,U,by rw[c];exact hz⟩
 ·rw[ho];refine pg r (s:=gS) (g:=g) (by rw[v];exact k1) hf k2 (λq I=>?_) (by rw[F];rfl) rfl rfl ⟨_,[],bn,[],rfl,nF,rfl,k5,rfl,rfl⟩ k6 (λk d=>by rw[v];exact k7 k d);rcases U9 D (DB σ y) q with J|J
  ·rw[J];rfl
  ·rw[J];cases hc:D.contains q with
   |true=>rw[<-J,Wt hc];rfl
   |false=>
    rcases i q I with L|L
    ·rw[hc]at L;cases L
    ·exact L
 ·exact hb.trans ⟨rfl,rfl,rfl,by rw[c];exact A5 _,λk d=>K1 w g k _<|λe=>hgb<|e ▸ d⟩
end
end
end Go.Proofs.YtdmpnamllcigdaaGreatDoor
